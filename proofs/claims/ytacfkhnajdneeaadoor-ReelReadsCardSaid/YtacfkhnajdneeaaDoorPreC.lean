/- Merged: Four JoinB Makers Mark PBytes PSame. -/
import Derived.Test.YtacfkhnajdneeaaDoorPreB
import Derived.Test.YtacfkhnajdneeaaDoorPreA
import Derived.BigQuiet
import Derived.Deep.QuietTactic
import Derived.Laws.BitsAllLaws
import Derived.Laws.BitsLemmas
import Derived.Ground.SlbNamesProg
import Derived.Test.YtacfkhnajdneeaaDoorChecked
import Derived.Shelf.Bytes.SlJoin
import Derived.Deep.CutRange
import Derived.OwnWalk
/- Walks: a number's four bytes, and back; noughts. -/
namespace Go.Proofs.YtacfkhnajdneeaaDoor
open Go.RowKit

def fourCells (n : Nat) : Array Value := #[.int .u8 ((n : Int) / 16777216), .int .u8 ((n : Int) / 65536 % 256), .int .u8 ((n : Int) / 256 % 256), .int .u8 ((n : Int) % 256)]
theorem four_lit (n : Nat) (hn : n < 4294967296) : (fourCells n).toList = (be4 n).map B8 := by
  have e : n / 16777216 % 256 = n / 16777216 := by omega
  unfold be4 fourCells
  simp only [List.map_cons, List.map_nil]
  rw [B8_ofNat _ (by omega), B8_ofNat _ (by omega), B8_ofNat _ (by omega), B8_ofNat _ (by omega), e]
  simp

set_option maxRecDepth 10000 in
set_option maxHeartbeats 400000 in
theorem four_any (n : Nat) (hn : n < 4294967296) (w : World) :
    Calls Tryd.prog 88 #[.int .u32 n] w fun e w' => ∃ v', e = .returned v' ∧ Own8 5 w.heap.size w' v' (be4 n) ∧ Below w.heap.size w w' := by
  go_enter Tryd.func88, Tryd.ntmps88
  go_wp2
  go_ret
  exact ⟨_, rfl, own8_lit _ _ _ _ _ (four_lit n hn) rfl (by simp [be4, maxLen]), (Below.refl _ _).alloc (Nat.le_refl _) _⟩

theorem or4 (x y z u : Nat) (hx : x < 256) (hy : y < 256) (hz : z < 256) (hu : u < 256) :
    bits .or .u32 (bits .or .u32 (bits .or .u32 ((x : Int) * 16777216) ((y : Int) * 65536)) ((z : Int) * 256)) (u : Int) = ((x * 16777216 + y * 65536 + z * 256 + u : Nat) : Int) := by
  rw [show (x : Int) * 16777216 = ((2 ^ 24 * x : Nat) : Int) by omega, show (y : Int) * 65536 = ((y * 65536 : Nat) : Int) by omega, show (z : Int) * 256 = ((z * 256 : Nat) : Int) by omega]
  rw [u32_or_nat _ _ (by omega) (by omega), ← Nat.two_pow_add_eq_or_of_lt (show y * 65536 < 2 ^ 24 by omega)]
  rw [show 2 ^ 24 * x + y * 65536 = 2 ^ 16 * (256 * x + y) by omega, u32_or_nat _ _ (by omega) (by omega), ← Nat.two_pow_add_eq_or_of_lt (show z * 256 < 2 ^ 16 by omega)]
  rw [show 2 ^ 16 * (256 * x + y) + z * 256 = 2 ^ 8 * (65536 * x + 256 * y + z) by omega, u32_or_nat _ _ (by omega) (by omega), ← Nat.two_pow_add_eq_or_of_lt (show u < 2 ^ 8 by omega)]
  congr 1
  omega

theorem ofInt_i64 (a : Nat) (ha : a < 9223372036854775808) : (BitVec.ofInt 64 (a : Int)).toNat = a := by
  rw [BitVec.ofInt_natCast, BitVec.toNat_ofNat]; exact Nat.mod_eq_of_lt (by omega)
theorem or2 (x y : Nat) (hx : x < 256) (hy : y < 256) : bits .or .i64 ((x : Int) * 256) (y : Int) = ((x * 256 + y : Nat) : Int) := by
  rw [show (x : Int) * 256 = ((2 ^ 8 * x : Nat) : Int) by omega]
  show IntKind.i64.wrap ((BitVec.ofInt 64 ((2 ^ 8 * x : Nat) : Int) ||| BitVec.ofInt 64 (y : Int)).toNat : Int) = _
  rw [BitVec.toNat_or, ofInt_i64 _ (by omega), ofInt_i64 _ (by omega), ← Nat.two_pow_add_eq_or_of_lt (show y < 2 ^ 8 by omega), IntKind.wrap_i64]
  omega

/-- one byte of bytes -/
theorem Bytes.byteAt {w : World} {a : Option Addr} {n c : Nat} {l : List UInt8} (h : Bytes w (.slice a n c) l) (i : Nat) (hi : i < l.length) :
    ∃ g o, a = some ⟨g, o, none⟩ ∧ w.cell? ⟨g, o + i, none⟩ = some (.int .u8 (l[i].toNat : Int)) := by
  obtain ⟨a', c', e, _, _, _, hr⟩ := h.lies
  cases e
  rcases hr with h0 | ⟨g, o, ha, hr⟩
  · have h0 := List.map_eq_nil_iff.1 h0
    subst h0
    simp at hi
  · refine ⟨g, o, ha, ?_⟩
    have := hr i (B8 l[i]) (by rw [List.getElem?_map, List.getElem?_eq_getElem hi]; rfl)
    exact this

set_option maxRecDepth 10000 in
set_option maxHeartbeats 800000 in
theorem num_any (v : Value) (a b c d : UInt8) (t : List UInt8) (w : World) (hv : Bytes w v (a :: b :: c :: d :: t)) :
    Calls Tryd.prog 85 #[v] w fun e w' => e = .returned (.int .u32 (val [a, b, c, d])) ∧ ∃ n, w' = w.drewN n := by
  obtain ⟨ad, cp, rfl, hm, hc, -, -⟩ := id hv
  obtain ⟨g, o, rfl, h0⟩ := hv.byteAt 0 (by simp)
  obtain ⟨g1, o1, e1, h1⟩ := hv.byteAt 1 (by simp)
  cases e1
  obtain ⟨g2, o2, e2, h2⟩ := hv.byteAt 2 (by simp)
  cases e2
  obtain ⟨g3, o3, e3, h3⟩ := hv.byteAt 3 (by simp)
  cases e3
  have ha := a.toNat_lt
  have hb := b.toNat_lt
  have hcc := c.toNat_lt
  have hd := d.toNat_lt
  simp only [List.getElem_cons_zero, List.getElem_cons_succ, Nat.add_zero] at h0 h1 h2 h3
  obtain ⟨len, hlen⟩ : ∃ len, len = (a :: b :: c :: d :: t).length := ⟨_, rfl⟩
  have h4 : (3 : Int) < len := by simp only [List.length_cons] at hlen; omega
  have h5 : (2 : Int) < len := by omega
  have h6 : (1 : Int) < len := by omega
  have h7 : (0 : Int) < len := by omega
  rw [← hlen]
  rw [val4]
  generalize a.toNat = x at *
  generalize b.toNat = y at *
  generalize c.toNat = z at *
  generalize d.toNat = u at *
  clear hv hlen hm hc
  go_enter Tryd.func85, Tryd.ntmps85
  go_wp2_with fail
  go_quiet (fail)
  go_wp2_with fail
  go_ret
  rw [← or4 x y z u (by omega) (by omega) (by omega) (by omega)]
  exact ⟨rfl, _, rfl⟩

set_option maxRecDepth 10000 in
set_option maxHeartbeats 800000 in
theorem trimR_any (v : Value) (l : List UInt8) (w : World) (hv : Bytes w v l) :
    Calls Tryd.prog 96 #[v, .int .u8 0] w fun e w' => ∃ v' m, e = .returned v' ∧ Bytes w v' (l.take m) ∧ m ≤ l.length ∧ noughts (l.drop m) ∧ w' = w := by
  obtain ⟨ad, cp, rfl, hm, hc, -, -⟩ := id hv
  unfold maxLen at hm
  have HV := Lib.hid hv
  clear hv
  go_enter Tryd.func96, Tryd.ntmps96
  go_wp2_with fail
  go_loopw [0] (fun s wr => ∃ m : Nat, s = .slice ad m cp ∧ m ≤ l.length ∧ Hid (noughts (l.drop m)) ∧ wr = w) (fun s _ => match s with | .slice _ m _ => m | _ => 0)
  case atStart => exact ⟨l.length, rfl, Nat.le_refl _, Lib.hid (by rw [List.drop_length]; intro b hb; cases hb), rfl⟩
  case round =>
    obtain ⟨m, rfl, hml, HZ, rfl⟩ := hrel
    have hpre : Bytes _ (.slice ad m cp) (l.take m) := HV.out.firsts m hml
    cases m with
    | zero =>
      go_wp2_with fail
      go_ret
      exact ⟨_, 0, rfl, hpre, Nat.zero_le _, HZ.out, rfl⟩
    | succ k =>
      have hkl : k < l.length := by omega
      have hlen : (l.take (k + 1)).length = k + 1 := by rw [List.length_take]; omega
      obtain ⟨g, o, rfl, h0⟩ := hpre.byteAt k (by omega)
      rw [List.getElem_take] at h0
      obtain ⟨b, hb⟩ : ∃ b, b = l[k] := ⟨_, rfl⟩
      rw [← hb] at h0
      have hk0 : (0 : Int) ≤ k := by omega
      have hk1 : (k : Int) < ((k + 1 : Nat) : Int) := by omega
      have hk2 : (0 : Int) < ((k + 1 : Nat) : Int) := by omega
      have hk3 : (k : Int) ≤ cp := by omega
      have hk4 : ((k + 1 : Nat) : Int) - 1 = k := by omega
      have HB := Lib.hid hb
      have HP := Lib.hid hpre
      clear hb hpre hlen
      by_cases hz : b.toNat = 0
      · have hzi : decide ((b.toNat : Int) = 0) = true := decide_eq_true (by omega)
        have hzb : ((b.toNat : Int) == 0) = true := by simp [hz]
        have HZ0 := Lib.hid hz
        clear hz
        go_wp2_with fail
        go_roundw
        case rel =>
          refine ⟨k, rfl, by omega, Lib.hid ?_, (by first | rfl | trivial)⟩
          rw [List.drop_eq_getElem_cons hkl]
          intro x hx
          rcases List.mem_cons.1 hx with h | h
          · rw [h, ← HB.out]; exact UInt8.toNat_inj.1 (by rw [HZ0.out]; rfl)
          · exact HZ.out x h
        case measure => simp
      · have hzi : decide ((b.toNat : Int) = 0) = false := decide_eq_false (by omega)
        have hzb : ((b.toNat : Int) == 0) = false := by simp; omega
        clear hz
        go_wp2_with fail
        go_ret
        exact ⟨_, k + 1, rfl, HP.out, by omega, HZ.out, rfl⟩

set_option maxRecDepth 10000 in
set_option maxHeartbeats 800000 in
theorem trimL_any (v : Value) (l : List UInt8) (w : World) (hv : Bytes w v l) :
    Calls Tryd.prog 95 #[v, .int .u8 0] w fun e w' => ∃ v' k, e = .returned v' ∧ Bytes w v' (l.drop k) ∧ noughts (l.take k) ∧ (∀ b t, l.drop k = b :: t → b ≠ 0) ∧ w' = w := by
  have HV := Lib.hid hv
  go_enter Tryd.func95, Tryd.ntmps95
  go_wp2_with fail
  go_loopw [0] (fun s wr => ∃ k : Nat, Hid (Bytes w s (l.drop k)) ∧ k ≤ l.length ∧ Hid (noughts (l.take k)) ∧ wr = w) (fun s _ => match s with | .slice _ m _ => m | _ => 0)
  case atStart => exact ⟨0, HV, Nat.zero_le _, Lib.hid (by intro b hb; cases hb), rfl⟩
  case round =>
    obtain ⟨k, HS, hkl, HZ, rfl⟩ := hrel
    obtain ⟨q, hq⟩ : ∃ q, q = l.drop k := ⟨_, rfl⟩
    have hs := HS.out
    rw [← hq] at hs
    have HQ := Lib.hid hq
    clear hq
    obtain ⟨ad, cp, e, hm, hc, -, -⟩ := id hs
    subst e
    unfold maxLen at hm
    cases q with
    | nil =>
      have HS2 := Lib.hid hs
      clear hs
      rw [List.length_nil]
      go_wp2_with fail
      go_ret
      exact ⟨.slice none 0 0, k, rfl, by rw [← HQ.out]; exact ⟨none, 0, rfl, by simp, Nat.le_refl _, fun _ => rfl, .inl rfl⟩, HZ.out, (fun b t h => by rw [← HQ.out] at h; cases h), rfl⟩
    | cons b t =>
      have hkl : k < l.length := by
        have := congrArg List.length HQ.out
        rw [List.length_cons, List.length_drop] at this
        omega
      have hlb : l[k] = b := by
        have h := HQ.out
        rw [List.drop_eq_getElem_cons hkl] at h
        exact (List.cons.inj h).1.symm
      have hlt : l.drop (k + 1) = t := by
        have h := HQ.out
        rw [List.drop_eq_getElem_cons hkl] at h
        exact (List.cons.inj h).2.symm
      obtain ⟨g, o, rfl, h0⟩ := hs.byteAt 0 (by simp)
      simp only [List.getElem_cons_zero, Nat.add_zero] at h0
      have hv2 := Bytes.suffix hs 1 (by simp)
      rw [List.length_cons] at hm hc ⊢
      have hv3 := hlt.symm.subst (motive := fun z => Bytes _ (.slice (if cp = 1 then some ⟨g, o, none⟩ else some ⟨g, o + 1, none⟩) t.length (cp - 1)) z) hv2
      have HV3 := Lib.hid hv3
      have HLB := Lib.hid hlb
      have HS2 := Lib.hid hs
      have hk2 : (0 : Int) < ((t.length + 1 : Nat) : Int) := by omega
      clear hs hv2 hv3 hlb hlt
      by_cases hz : b.toNat = 0
      · have hzi : decide ((b.toNat : Int) = 0) = true := decide_eq_true (by omega)
        have hzb : ((b.toNat : Int) == 0) = true := by simp [hz]
        have HZ0 := Lib.hid hz
        clear hz
        go_wp2_with fail
        go_roundw
        case rel =>
          refine ⟨k + 1, HV3, by omega, Lib.hid ?_, (by first | rfl | trivial)⟩
          rw [List.take_succ_eq_append_getElem hkl]
          intro x hx
          rcases List.mem_append.1 hx with h | h
          · exact HZ.out x h
          · rw [List.mem_singleton.1 h, HLB.out]; exact UInt8.toNat_inj.1 (by rw [HZ0.out]; rfl)
        case measure => first | (simp; done) | (simp; omega)
      · have hzi : decide ((b.toNat : Int) = 0) = false := decide_eq_false (by omega)
        have hzb : ((b.toNat : Int) == 0) = false := by simp; omega
        have HZ0 := Lib.hid hz
        clear hz
        have hne : ((t.length + 1 : Nat) : Int) ≠ 0 := by omega
        go_wp2_with fail
        go_ret
        refine ⟨_, k, rfl, by rw [← HQ.out]; exact HS2.out, HZ.out, fun b' t' h => ?_, rfl⟩
        rw [← HQ.out] at h
        cases h
        intro h0
        exact HZ0.out (by rw [h0]; rfl)

set_option maxRecDepth 10000 in
set_option maxHeartbeats 800000 in
theorem blank_any (v : Value) (l : List UInt8) (w : World) (hv : Bytes w v l) :
    Calls Tryd.prog 82 #[v] w fun e w' => e = .returned (.bool (decide (noughts l))) ∧ ∃ n, w' = w.drewN n := by
  have HV := Lib.hid hv
  obtain ⟨ad, cp, rfl, hm, hc, -, -⟩ := id hv
  unfold maxLen at hm
  clear hv
  have htrim : Calls Tryd.prog 90 #[.slice ad l.length cp, .string ⟨#[0]⟩] w fun e w' => (∃ v' q, e = .returned v' ∧ Bytes w v' q ∧ (q = [] ↔ noughts l)) ∧ ∃ n, w' = w.drewN n := by
    by_cases hl : l.length = 0
    · have hnil : l = [] := List.length_eq_zero_iff.1 hl
      subst hnil
      rw [List.length_nil]
      go_enter Tryd.func90, Tryd.ntmps90
      go_wp2_with fail
      go_ret
      exact ⟨⟨.slice none 0 0, [], rfl, ⟨none, 0, rfl, by simp, Nat.le_refl _, fun _ => rfl, .inl rfl⟩, by simp [noughts]⟩, 0, rfl⟩
    · have hl0 : (0 : Int) < l.length := by omega
      have hli : ((l.length : Int) == 0) = false := beq_false_of_ne (by omega)
      have hld : decide ((l.length : Int) = 0) = false := decide_eq_false (by omega)
      clear hl
      go_enter Tryd.func90, Tryd.ntmps90
      go_wp2_with fail
      refine region_anyZ (z := 6) (S := fun _ => True) (by kernel_rfl) ?_
      refine anyZ_begin (fun hcl0 => ?_)
      refine anyZ_held (by exact trivial) (fun hHeld => ?_)
      -- 0: Op.move (Operand.tmp 0)
      refine' anyZ_pure (i := 0) (v := _) rfl (by rfl) (by kernel_rfl) (by kernel_rfl) (by kernel_rfl) hcl0 (fun _ _ _ h => h) (Or.inl ⟨by rfl, fun w _ => ?h1⟩) (fun _ => hHeld) (fun hcl1 => ?r1)
      case h1 => (simp only [List.getElem_toArray, List.getElem_cons_zero]; first | (go_simp; with_reducible rfl) | (go_simp; done) | rfl)
      simp only [List.getElem_toArray, List.getElem_cons_zero, Act.put, List.setIfInBounds_toArray, List.set_cons_zero, List.set_cons_succ]
      -- 1: Op.move (Operand.tmp 1)
      refine' anyZ_pure (i := 1) (v := _) rfl (by rfl) (by kernel_rfl) (by kernel_rfl) (by kernel_rfl) hcl1 (fun _ _ _ h => h) (Or.inl ⟨by rfl, fun w _ => ?h2⟩) (fun _ => hHeld) (fun hcl2 => ?r2)
      case h2 => (simp only [List.getElem_toArray, List.getElem_cons_succ, List.getElem_cons_zero]; first | (go_simp; with_reducible rfl) | (go_simp; done) | rfl)
      simp only [List.getElem_toArray, List.getElem_cons_succ, List.getElem_cons_zero, Act.put, List.setIfInBounds_toArray, List.set_cons_zero, List.set_cons_succ]
      -- 2: Op.index 9 (Operand.tmp 22) (Operand.const (Value.int IntKin
      refine' anyZ_pure (i := 2) (v := _) rfl (by rfl) (by kernel_rfl) (by kernel_rfl) (by kernel_rfl) hcl2 (fun _ _ _ h => h) (Or.inl ⟨by rfl, fun w _ => ?h3⟩) (fun _ => hHeld) (fun hcl3 => ?r3)
      case h3 => (simp only [List.getElem_toArray, List.getElem_cons_succ, List.getElem_cons_zero]; first | (go_simp; with_reducible rfl) | (go_simp; done) | rfl)
      simp only [List.getElem_toArray, List.getElem_cons_succ, List.getElem_cons_zero, Act.put, List.setIfInBounds_toArray, List.set_cons_zero, List.set_cons_succ]
      -- 4: Op.move (Operand.tmp 1)
      refine' anyZ_pure (i := 4) (v := _) rfl (by rfl) (by kernel_rfl) (by kernel_rfl) (by kernel_rfl) hcl3 (fun _ _ _ h => h) (Or.inl ⟨by rfl, fun w _ => ?h4⟩) (fun _ => hHeld) (fun hcl4 => ?r4)
      case h4 => (simp only [List.getElem_toArray, List.getElem_cons_succ, List.getElem_cons_zero]; first | (go_simp; with_reducible rfl) | (go_simp; done) | rfl)
      simp only [List.getElem_toArray, List.getElem_cons_succ, List.getElem_cons_zero, Act.put, List.setIfInBounds_toArray, List.set_cons_zero, List.set_cons_succ]
      -- 5: Op.index 9 (Operand.tmp 25) (Operand.const (Value.int IntKin
      refine' anyZ_pure (i := 5) (v := _) rfl (by rfl) (by kernel_rfl) (by kernel_rfl) (by kernel_rfl) hcl4 (fun _ _ _ h => h) (Or.inl ⟨by rfl, fun w _ => ?h5⟩) (fun _ => hHeld) (fun hcl5 => ?r5)
      case h5 => (simp only [List.getElem_toArray, List.getElem_cons_succ, List.getElem_cons_zero]; first | (go_simp; with_reducible rfl) | (go_simp; done) | rfl)
      simp only [List.getElem_toArray, List.getElem_cons_succ, List.getElem_cons_zero, Act.put, List.setIfInBounds_toArray, List.set_cons_zero, List.set_cons_succ]
      -- 3: Op.call { callee := Callee.value (Operand.func 42), args := 
      refine anyZ_one (i := 3) hcl5 (by kernel_rfl) (by simp only [List.getElem?_toArray, List.getElem?_cons_succ, List.getElem?_cons_zero]; rfl) (by rfl) (fun hcl6 K hK => ?_)
      go_simp
      refine (trimR_any _ l _ (HV.out.below (bdr (bre _)))).mono ?_
      rintro e w1 ⟨v1, m, rfl, hy1, hm1, hz1, rfl⟩
      refine hK _ _ (fun _ => ?_) ?_
      · exact trivial
      clear hK K hHeld
      try simp only [Act.put, List.setIfInBounds_toArray, List.set_cons_zero, List.set_cons_succ]
      refine anyZ_chain_at (by kernel_rfl) ?_
      simp only [List.drop_succ_cons, List.drop_zero]
      go_wp2_with fail
      refine (trimL_any _ _ _ hy1).mono ?_
      rintro e w2 ⟨v2, k, rfl, hy2, hz2, hh2, rfl⟩
      go_wp2_with fail
      go_ret
      refine ⟨⟨v2, (l.take m).drop k, rfl, hy2, ?_⟩, 1, rfl⟩
      constructor
      · intro h b hb
        rw [← List.take_append_drop m l] at hb
        rcases List.mem_append.1 hb with h1 | h1
        · rw [← List.take_append_drop k (l.take m), h, List.append_nil] at h1
          exact hz2 b h1
        · exact hz1 b h1
      · intro h
        cases hq : (l.take m).drop k with
        | nil => rfl
        | cons b t => exact absurd (h b (List.mem_of_mem_take (List.mem_of_mem_drop (by rw [hq]; exact List.mem_cons_self)))) (hh2 b t hq)
  have HT := Lib.hid htrim
  clear htrim
  go_enter Tryd.func82, Tryd.ntmps82
  go_wp2_with fail
  refine HT.out.mono ?_
  rintro e w1 ⟨⟨v', q, rfl, hy, hq⟩, n, rfl⟩
  obtain ⟨a', c', rfl, -⟩ := id hy
  cases q with
  | nil =>
    have hd : decide (noughts l) = true := decide_eq_true (hq.1 rfl)
    obtain ⟨z, hz⟩ : ∃ z, z = ([] : List UInt8).length := ⟨_, rfl⟩
    rw [← hz]
    have h1 : ((z : Int) == 0) = true := by rw [hz]; rfl
    have h2 : decide ((z : Int) = 0) = true := by rw [hz]; rfl
    clear hy hq hz
    go_wp2_with fail
    go_ret
    rw [hd]
    exact ⟨rfl, n, rfl⟩
  | cons b t =>
    have hd : decide (noughts l) = false := decide_eq_false (fun h => by cases hq.2 h)
    have h1 : (((b :: t).length : Int) == 0) = false := by simp; omega
    have h2 : decide (((b :: t).length : Int) = 0) = false := decide_eq_false (by simp only [List.length_cons]; omega)
    clear hy hq
    generalize (b :: t).length = z at *
    go_wp2_with fail
    go_ret
    rw [hd]
    exact ⟨rfl, n, rfl⟩
end Go.Proofs.YtacfkhnajdneeaaDoor
/- bytes.Join, off the shelf. -/
namespace Go.Proofs
open Go.Shelf Go.Lib Go.RowKit
def Tryd.lays14_ren : Go.Shelf.Ren := ⟨fun | 14 => 87 | 15 => 93 | n => n, fun | 26 => 22 | 22 => 23 | 3 => 3 | 4 => 4 | 0 => 0 | 9 => 9 | 20 => 20 | 5 => 5 | n => n, fun | n => n⟩
theorem Tryd.lays14 : Go.Proofs.SlLaysJ.n14 Tryd.prog Tryd.lays14_ren := {
  mixed := by kernel_rfl
  f14 := Tryd.func87.trans (congrArg some (by kernel_rfl))
  f15 := Tryd.func93.trans (congrArg some (by kernel_rfl))
  t0 := Tryd.underlying0
  a0 := Tryd.isAgg0
  z0 := Tryd.sizeOf0
  v0 := Tryd.zeroValue0
  t3 := Tryd.underlying3
  a3 := Tryd.isAgg3
  z3 := Tryd.sizeOf3
  v3 := Tryd.zeroValue3
  t4 := Tryd.underlying4
  a4 := Tryd.isAgg4
  z4 := Tryd.sizeOf4
  v4 := Tryd.zeroValue4
  t9 := Tryd.underlying9
  a9 := Tryd.isAgg9
  z9 := Tryd.sizeOf9
  v9 := Tryd.zeroValue9
  t20 := Tryd.underlying20
  a20 := Tryd.isAgg20
  z20 := Tryd.sizeOf20
  v20 := Tryd.zeroValue20
  t22 := Tryd.underlying23
  a22 := Tryd.isAgg23
  z22 := Tryd.sizeOf23
  v22 := Tryd.zeroValue23
  t26 := Tryd.underlying22
  a26 := Tryd.isAgg22
  z26 := Tryd.sizeOf22
  v26 := Tryd.zeroValue22
  t5 := Tryd.underlying5
  z5 := Tryd.sizeOf5
  i5 := by kernel_rfl }
namespace X0
end X0
end Go.Proofs
namespace Go.Proofs.YtacfkhnajdneeaaDoor
open Go.RowKit

theorem holds_of_bytes {w : World} {v : Value} {l : List UInt8} (h : Bytes w v l) : Lib.HoldsBytes w v l := by
  obtain ⟨a, c, rfl, _, _, hn, hr⟩ := h
  rcases hr with h0 | ⟨g, o, rfl, hr⟩
  · subst h0
    exact ⟨a, c, rfl, fun _ => rfl, fun _ _ i x hx => by simp at hx⟩
  · refine ⟨some ⟨g, o, none⟩, c, rfl, fun h => (by cases h), fun b hb i x hx => ?_⟩
    cases hb
    obtain ⟨u, hu, rfl⟩ := hr i x hx
    rw [Addr.add_mid]
    exact hu

theorem bytes_of_fresh {w : World} {v : Value} {l : List UInt8} {B : Nat} (h : Lib.FreshBytes B w v l) : Bytes w v l := by
  obtain ⟨g, cap, zs, rfl, _, hc, hm, hz, hr, hb, hcell, _⟩ := h
  refine ⟨some ⟨g, 0, none⟩, cap, rfl, Nat.le_trans hc hm, hc, fun h => (by cases h), .inr ⟨g, 0, rfl, fun j x hx => ⟨_, by rw [Nat.zero_add]; exact hcell j (by have := (List.getElem?_eq_some_iff.1 hx).1; omega), ?_⟩⟩⟩
  have hj := (List.getElem?_eq_some_iff.1 hx).1
  have hjz : j < zs.length := by omega
  have hzj : (zs.take l.length)[j]? = some zs[j] := by rw [List.getElem?_take, if_pos hj, List.getElem?_eq_getElem hjz]
  have h1 : (Lib.bytesOf (zs.take l.length))[j]? = some x := by rw [hb]; exact hx
  unfold Lib.bytesOf at h1
  rw [List.getElem?_map, hzj] at h1
  have h2 := hr zs[j] (List.getElem_mem _)
  rw [List.getD_eq_getElem?_getD, List.getElem?_eq_getElem hjz]
  simp only [Option.map_some, Option.some.injEq] at h1
  subst h1
  obtain ⟨n, hn⟩ := Int.eq_ofNat_of_zero_le h2.1
  show Value.int .u8 zs[j] = B8 _
  rw [hn] at h2 ⊢
  unfold B8
  congr 1
  simp
  omega

theorem parts_lit (w : World) (cs : List Value) (ls : List (List UInt8)) (e n : Nat) (hn : n = w.heap.size) (hl : cs.length = ls.length)
    (h : ∀ (j : Nat) v l, cs[j]? = some v → ls[j]? = some l → Bytes w v l) : Lib.PartsAt (w.alloc (.cells cs.toArray e)) ⟨n, 0, none⟩ cs ls := by
  subst hn
  refine ⟨hl, fun i v hv => ?_, fun i v l hv hl => holds_of_bytes ((h i v l hv hl).below (bal (bre w) _))⟩
  rw [Addr.add_mid, Nat.zero_add, cell_of_row _ w.heap.size i _ e _ (heap_alloc_new w _)]
  simpa using hv

theorem bjoin_any (w : World) (cs : List Value) (ls : List (List UInt8)) (e n k : Nat) (hn : n = w.heap.size) (hl : cs.length = ls.length) (hk : k = ls.length) (h2 : 2 ≤ ls.length) (h3 : ls.length ≤ 1000) (hb : ls.flatten.length ≤ 140737488355328)
    (h : ∀ (j : Nat) v l, cs[j]? = some v → ls[j]? = some l → Bytes w v l) :
    Calls Tryd.prog 87 #[.slice (some ⟨n, 0, none⟩) k k, .slice none 0 0] (w.alloc (.cells cs.toArray e)) fun e' w' => ∃ v', e' = .returned v' ∧ Bytes w' v' ls.flatten ∧ Below (w.alloc (.cells cs.toArray e)).heap.size (w.alloc (.cells cs.toArray e)) w' := by
  subst hk
  have hlens : Lib.lens ls = ls.flatten.length := by unfold Lib.lens; rw [List.length_flatten]
  have hj : Lib.join ls [] = ls.flatten := by
    unfold Lib.join
    clear h hb hlens hl h2 h3
    induction ls with
    | nil => rfl
    | cons a ls ih =>
      cases ls with
      | nil => simp [List.intercalate]
      | cons b ls => rw [List.flatten_cons, ← ih]; simp [List.intercalate]
  have := Any.bytes_Join_many Tryd.lays14 n 0 ls.length ls.length cs ls (.slice none 0 0) [] (w.alloc (.cells cs.toArray e)) rfl h2 (parts_lit w cs ls e n hn hl h) (Nat.le_refl _) ⟨none, 0, rfl, fun _ => rfl, fun _ hh => by cases hh⟩ (by omega) (by rw [hlens, List.length_nil, Nat.zero_mul]; omega)
  refine this.mono ?_
  rintro e' w' ⟨v', he, hf, hb⟩
  rw [hj] at hf
  exact ⟨v', he, bytes_of_fresh hf, hb⟩
end Go.Proofs.YtacfkhnajdneeaaDoor
/- A region that draws its order: operations that make memory, in whatever order. No program is in sight. -/
namespace Go.Proofs.YtacfkhnajdneeaaDoor
open Go.RowKit

section
variable {P : Program} {ops : Array Oper} {Q : Exit → Act → World → Prop} {md : Region.Mode} {S : World → Prop} {z : Nat}

theorem anyZ_all {fuel : Nat} {listed : Array Bool} {a : Act} {w : World} (l : List Nat) (hr : Region.ready md ops listed = l) (hne : l ≠ [])
    (h : ∀ i ∈ l, wpOp P ops Q i (fun a' w' => ((listed.setIfInBounds i true).getD z true = false → S w') ∧ AnyZ P md ops Q S z fuel (listed.setIfInBounds i true) a' w') a w) : AnyZ P md ops Q S z (fuel + 1) listed a w := by
  subst hr
  exact ⟨fun h0 => absurd h0 hne, h⟩

theorem wpOp_plain {i : Nat} {oi : Oper} {a : Act} {w : World} {K : Act → World → Prop} (hi : ops[i]? = some oi) (hg : oi.guard = none) (h : oi.wp P a w K Q) : wpOp P ops Q i K a w := by
  unfold wpOp
  simp only [hi]
  rw [if_pos (by simp [Region.wanted, hg])]
  exact .inl h

theorem anyZ_only {fuel i : Nat} {oi : Oper} {listed : Array Bool} {a : Act} {w : World} (hr : Region.ready md ops listed = [i]) (hi : ops[i]? = some oi) (hg : oi.guard = none)
    (h : oi.wp P a w (fun a' w' => ((listed.setIfInBounds i true).getD z true = false → S w') ∧ AnyZ P md ops Q S z fuel (listed.setIfInBounds i true) a' w') Q) : AnyZ P md ops Q S z (fuel + 1) listed a w :=
  anyZ_all [i] hr (by simp) (fun j hj => by
    obtain rfl : j = i := by simpa using hj
    exact wpOp_plain hi hg h)

/-- the rest of a region under a name: T; what is ready at a list; what an operation asks -/
theorem anyZ_name {fuel : Nat} {listed : Array Bool} {a : Act} {w : World}
    (k : ∀ (T : Nat → Array Bool → Act → World → Prop) (Wp : Nat → (Act → World → Prop) → Act → World → Prop) (R : Array Bool → List Nat),
      (∀ fuel listed a w (l : List Nat), R listed = l → l ≠ [] → (∀ i ∈ l, Wp i (fun a' w' => ((listed.setIfInBounds i true).getD z true = false → S w') ∧ T fuel (listed.setIfInBounds i true) a' w') a w) → T (fuel + 1) listed a w) →
      (∀ listed, R listed = Region.ready md ops listed) →
      (∀ i oi a w K, ops[i]? = some oi → oi.guard = none → oi.wp P a w K Q → Wp i K a w) →
      (∀ fuel listed a w, AnyZ P md ops Q S z fuel listed a w → T fuel listed a w) →
      T fuel listed a w) : AnyZ P md ops Q S z fuel listed a w :=
  k (AnyZ P md ops Q S z) (wpOp P ops Q) (Region.ready md ops) (fun _ _ _ _ l h1 h2 h3 => anyZ_all l h1 h2 h3) (fun _ => rfl) (fun _ _ _ _ _ h1 h2 h3 => wpOp_plain h1 h2 h3) fun _ _ _ _ h => h

theorem anyZ_cast {fuel : Nat} {listed listed' : Array Bool} {a : Act} {w : World} (e : listed = listed') (h : AnyZ P md ops Q S z fuel listed' a w) : AnyZ P md ops Q S z fuel listed a w := e ▸ h
end

theorem put_swap (a : Act) (i j : Nat) (u v : Value) (h : i ≠ j) : (a.put (some i) u).put (some j) v = (a.put (some j) v).put (some i) u := by
  unfold Act.put
  simp only
  congr 1
  exact Array.setIfInBounds_comm _ _ h

theorem eval_put (a : Act) (i j : Nat) (v : Value) (h : i ≠ j) : (a.put (some i) v).eval (.tmp j) = a.eval (.tmp j) := by
  unfold Act.put Act.eval
  simp only [Array.getD_eq_getD_getElem?]
  rw [Array.getElem?_setIfInBounds_ne h]
end Go.Proofs.YtacfkhnajdneeaaDoor
/- '[]byte("..")' of a constant, its literal laid earlier: the block is marked, the cells stay. No program is in sight. -/
namespace Go.Proofs.YtacfkhnajdneeaaDoor
open Go.RowKit

/-- a literal in a block of its own, whatever its mark -/
def Lit (w : World) (g : Nat) (cs : Array Value) (e B : Nat) : Prop := (∃ fr, w.heap[g]? = some (.cells cs e fr)) ∧ B ≤ g
theorem Lit.below {w w' : World} {g : Nat} {cs : Array Value} {e B : Nat} (h : Lit w g cs e B) (hb : Below w.heap.size w w') : Lit w' g cs e B := by
  obtain ⟨⟨fr, h⟩, hB⟩ := h
  exact ⟨⟨fr, (hb.block g (Array.getElem?_eq_some_iff.1 h).1).trans h⟩, hB⟩

theorem run_conv_mark {P : Program} (w : World) (t e : Nat) (g n c : Nat) (C : Array Value) (fr : Nat × Nat) (hg : w.heap[g]? = some (.cells C e fr)) (ht : P.underlying t = some (.slice e)) (he : P.underlying e = some (.int .u8)) :
    (convert t t (.slice (some ⟨g, 0, none⟩) n c)).run P w = .ok (.slice (some ⟨g, 0, none⟩) n c) (w.freeze ⟨g, C.size, none⟩ 1) := by
  have hsh : w.shape? g = some (e, C.size) := by unfold World.shape?; rw [hg]
  simp [convert, run_underlying ht, run_underlying he, markStringish, hsh]

theorem freeze_other (w : World) (g k o : Nat) (h : k ≠ g) : (w.freeze ⟨g, o, none⟩ 1).heap[k]? = w.heap[k]? := by
  unfold World.freeze
  rw [if_neg (by decide)]
  simp only [Array.getElem?_modify, if_neg (Ne.symm h)]
theorem freeze_own (w : World) (g o : Nat) (C : Array Value) (e : Nat) (fr : Nat × Nat) (h : w.heap[g]? = some (.cells C e fr)) : ∃ fr', (w.freeze ⟨g, o, none⟩ 1).heap[g]? = some (.cells C e fr') := by
  unfold World.freeze
  rw [if_neg (by decide)]
  simp only [Array.getElem?_modify, if_true, h, Option.map_some]
  exact ⟨_, rfl⟩
theorem freeze_below (w : World) (g o B : Nat) (h : B ≤ g) : Below B w (w.freeze ⟨g, o, none⟩ 1) := by
  refine ⟨?_, ?_, ?_, ?_, fun k hk => freeze_other w g k o (by omega)⟩ <;> (unfold World.freeze; rw [if_neg (by decide)])
  simp

theorem freeze_cells (w : World) (g o : Nat) (C : Array Value) (e : Nat) (fr : Nat × Nat) (h : w.heap[g]? = some (.cells C e fr)) (p : Addr) (v : Value) (hp : w.cell? p = some v) : (w.freeze ⟨g, o, none⟩ 1).cell? p = some v := by
  by_cases hg : p.block = g
  · obtain ⟨fr', h'⟩ := freeze_own w g o C e fr h
    unfold World.cell? at hp ⊢
    rw [hg, h] at hp
    rw [hg, h']
    exact hp
  · unfold World.cell? at hp ⊢
    rw [freeze_other w g _ o hg]
    exact hp

theorem Bytes.cells {w w' : World} {v : Value} {l : List UInt8} (h : Bytes w v l) (hk : ∀ (p : Addr) u, w.cell? p = some u → w'.cell? p = some u) : Bytes w' v l := by
  obtain ⟨a, c, rfl, h1, h2, h3, h4⟩ := h
  refine ⟨a, c, rfl, h1, h2, h3, ?_⟩
  rcases h4 with h4 | ⟨g, o, ha, h4⟩
  · exact .inl h4
  · exact .inr ⟨g, o, ha, fun j x hx => by obtain ⟨u, hu, hb⟩ := h4 j x hx; exact ⟨u, hk _ _ hu, hb⟩⟩

theorem cell_row' {w : World} {g i e : Nat} {cs : Array Value} {fr : Nat × Nat} (h : w.heap[g]? = some (.cells cs e fr)) : w.cell? ⟨g, i, none⟩ = cs[i]? := by simp [World.cell?, h]

theorem Lit.bytes {w : World} {g : Nat} {l : List UInt8} {cs : Array Value} {e B n : Nat} (h : Lit w g cs e B) (hc : cs.toList = l.map B8) (hn : n = l.length) (hm : l.length ≤ maxLen) : Bytes w (.slice (some ⟨g, 0, none⟩) n n) l := by
  subst hn
  obtain ⟨⟨fr, h⟩, -⟩ := h
  refine ⟨some ⟨g, 0, none⟩, l.length, rfl, hm, Nat.le_refl _, fun h => (by cases h), .inr ⟨g, 0, rfl, fun j x hx => ⟨B8 x, ?_, rfl⟩⟩⟩
  rw [Nat.zero_add, cell_row' h, ← Array.getElem?_toList, hc, List.getElem?_map, hx]
  rfl
end Go.Proofs.YtacfkhnajdneeaaDoor
/- Walk: a page's bytes. -/
namespace Go.Proofs.YtacfkhnajdneeaaDoor
open Go.RowKit

theorem wrap8 (n : Nat) : IntKind.u8.wrap (n : Int) = ((n % 256 : Nat) : Int) := by
  simp [IntKind.wrap, IntKind.signed, IntKind.bits]

theorem eval_hit (a : Act) (i : Nat) (v : Value) (h : i < a.tmps.size) : (a.put (some i) v).eval (.tmp i) = v := by
  unfold Act.put Act.eval
  simp [h]


set_option maxRecDepth 10000 in
theorem four_step (t s n : Nat) (hn : n < 4294967296) (o : Oper) (a : Act) (w1 : World) (K : Act → World → Prop) (Q : Exit → Act → World → Prop) (ho : o.op = .call { callee := .value (.func 88), args := #[.tmp t], argTypes := #[34] }) (hd : o.dst = some s)
    (he : a.eval (.tmp t) = .int .u32 n) (hK : ∀ ad c w2, Bytes w2 (.slice ad 4 c) (be4 n) → Below w1.heap.size w1 w2 → K (a.put (some s) (.slice ad 4 c)) w2) : o.wp Tryd.prog a w1 K Q := by
  have hrun : (execOp a.eval o).run Tryd.prog w1 = .ok (.enter 88 #[.int .u32 n]) w1 := by
    unfold execOp
    simp only [ho, resolve, invoke, Sem.run_bind, List.map_toArray, List.map_cons, List.map_nil, he]
    rfl
  unfold Oper.wp
  rw [hrun, Oper.upon_enter]
  refine (four_any n hn w1).mono ?_
  rintro e w2 ⟨v2, rfl, ho2, hb2⟩
  obtain ⟨a2, c2, rfl, -⟩ := id ho2.bytes
  rw [hd]
  exact hK a2 c2 w2 ho2.bytes hb2

def PgAt (w : World) (v : Value) (p : Pg) : Prop := ∃ vd, v = .agg #[.int .u32 p.gen, .int .u32 p.serial, .int .u32 p.number, .int .u8 p.kind, vd] ∧ Bytes w vd p.data

theorem PgAt.below {w w' : World} {v : Value} {p : Pg} (h : PgAt w v p) (hb : Below w.heap.size w w') : PgAt w' v p := by
  obtain ⟨vd, e, h⟩ := h
  exact ⟨vd, e, h.below hb⟩

set_option maxRecDepth 10000 in
set_option maxHeartbeats 3200000 in
theorem pbytes_ok (v : Value) (p : Pg) (w : World) (hv : PgAt w v p) (ok : p.Ok) (hk : p.kind ≠ 0) (hd : p.data.length ≤ 491) :
    Calls Tryd.prog 77 #[v] w fun e w' => ∃ v', e = .returned (.tuple #[v', .int .i64 0]) ∧ Own8 5 w.heap.size w' v' (seal8 p.raw) ∧ Below w.heap.size w w' := by
  obtain ⟨vd, rfl, hvd⟩ := hv
  obtain ⟨ad, cd, rfl, hm, hc, -, -⟩ := id hvd
  obtain ⟨o1, o2, o3, o4⟩ := ok
  have hk1 : ((p.kind : Int) == 0) = false := beq_false_of_ne (by omega)
  have hk2 : decide ((p.kind : Int) = 0) = false := decide_eq_false (by omega)
  have hd1 : (p.data.length : Int) ≤ 491 := by omega
  have HVD := Lib.hid hvd
  have HK := Lib.hid hk
  clear hvd hk hm hc
  go_enter Tryd.func77, Tryd.ntmps77
  go_upto_region 6 with fail
  obtain ⟨n0, hn0⟩ : ∃ n0, n0 = w.heap.size := ⟨_, rfl⟩
  have hr0 := heap_alloc_new w (.cells #[.int .u32 p.gen, .int .u32 p.serial, .int .u32 p.number, .int .u8 p.kind, .slice ad p.data.length cd] 122)
  have hb0 := bal (bre w) (.cells #[.int .u32 p.gen, .int .u32 p.serial, .int .u32 p.number, .int .u8 p.kind, .slice ad p.data.length cd] 122)
  rw [← hn0] at hr0 ⊢
  generalize w.alloc (.cells #[.int .u32 p.gen, .int .u32 p.serial, .int .u32 p.number, .int .u8 p.kind, .slice ad p.data.length cd] 122) = W at *
  have hlt := (Array.getElem?_eq_some_iff.1 hr0).1
  have f0 := cell_of_row W n0 0 _ _ _ hr0
  have f1 := cell_of_row W n0 1 _ _ _ hr0
  have f2 := cell_of_row W n0 2 _ _ _ hr0
  have f3 := cell_of_row W n0 3 _ _ _ hr0
  have f4 := cell_of_row W n0 4 _ _ _ hr0
  have hSB : ∀ w', Below W.heap.size W w' → (w'.cell? ⟨n0, 0, none⟩ = some (.int .u32 p.gen) ∧ w'.cell? ⟨n0, 1, none⟩ = some (.int .u32 p.serial) ∧ w'.cell? ⟨n0, 2, none⟩ = some (.int .u32 p.number) ∧ w'.cell? ⟨n0, 3, none⟩ = some (.int .u8 p.kind) ∧ w'.cell? ⟨n0, 4, none⟩ = some (.slice ad p.data.length cd)) := fun w' hb =>
    ⟨(hb.cell (p := ⟨n0, 0, none⟩) hlt).trans f0, (hb.cell (p := ⟨n0, 1, none⟩) hlt).trans f1, (hb.cell (p := ⟨n0, 2, none⟩) hlt).trans f2, (hb.cell (p := ⟨n0, 3, none⟩) hlt).trans f3, (hb.cell (p := ⟨n0, 4, none⟩) hlt).trans f4⟩
  have HSB := Lib.hid hSB
  have HB0 := Lib.hid hb0
  have HDW := Lib.hid (HVD.out.below hb0)
  clear hr0 hb0 hn0 hSB
  refine region_anyZ (z := 24) (S := fun w' => (w'.cell? ⟨n0, 0, none⟩ = some (.int .u32 p.gen) ∧ w'.cell? ⟨n0, 1, none⟩ = some (.int .u32 p.serial) ∧ w'.cell? ⟨n0, 2, none⟩ = some (.int .u32 p.number) ∧ w'.cell? ⟨n0, 3, none⟩ = some (.int .u8 p.kind) ∧ w'.cell? ⟨n0, 4, none⟩ = some (.slice ad p.data.length cd))) (by kernel_rfl) ?_
  refine anyZ_begin (fun hcl0 => ?_)
  refine anyZ_held (by exact HSB.out _ (bdr (bre W))) (fun hHeld => ?_)
  -- 2: Op.fieldAddr 25 (Operand.tmp 1) 0
  refine' anyZ_pure (i := 2) (v := _) rfl (by rfl) (by kernel_rfl) (by kernel_rfl) (by kernel_rfl) hcl0 (fun _ _ _ h => h) (Or.inl ⟨by rfl, fun w _ => ?h1⟩) (fun _ => hHeld) (fun hcl1 => ?r1)
  case h1 => (simp only [List.getElem_toArray, List.getElem_cons_succ, List.getElem_cons_zero]; first | (go_simp; with_reducible rfl) | (go_simp; done) | rfl)
  simp only [List.getElem_toArray, List.getElem_cons_succ, List.getElem_cons_zero, Act.put, List.setIfInBounds_toArray, List.set_cons_zero, List.set_cons_succ]
  -- 3: Op.load 22 (Operand.tmp 18)
  refine' anyZ_take (i := 3) (v := _) rfl (by rfl) (by kernel_rfl) (by kernel_rfl) (by kernel_rfl) hcl1 5 (by kernel_rfl) (by kernel_rfl) (fun _ _ _ h => h) (Or.inl ⟨by rfl, fun w hSw => ?h2⟩) hHeld (fun hcl2 => ?r2)
  case h2 => (simp only [List.getElem_toArray, List.getElem_cons_succ, List.getElem_cons_zero]; obtain ⟨hS1, hS2, hS3, hS4, hS5⟩ := hSw; first | (go_simp; with_reducible rfl) | (go_simp; done) | rfl)
  simp only [List.getElem_toArray, List.getElem_cons_succ, List.getElem_cons_zero, Act.put, List.setIfInBounds_toArray, List.set_cons_zero, List.set_cons_succ]
  -- 5: Op.fieldAddr 25 (Operand.tmp 1) 1
  refine' anyZ_pure (i := 5) (v := _) rfl (by rfl) (by kernel_rfl) (by kernel_rfl) (by kernel_rfl) hcl2 (fun _ _ _ h => h) (Or.inl ⟨by rfl, fun w _ => ?h3⟩) (fun _ => hHeld) (fun hcl3 => ?r3)
  case h3 => (simp only [List.getElem_toArray, List.getElem_cons_succ, List.getElem_cons_zero]; first | (go_simp; with_reducible rfl) | (go_simp; done) | rfl)
  simp only [List.getElem_toArray, List.getElem_cons_succ, List.getElem_cons_zero, Act.put, List.setIfInBounds_toArray, List.set_cons_zero, List.set_cons_succ]
  -- 6: Op.load 22 (Operand.tmp 21)
  refine' anyZ_take (i := 6) (v := _) rfl (by rfl) (by kernel_rfl) (by kernel_rfl) (by kernel_rfl) hcl3 5 (by kernel_rfl) (by kernel_rfl) (fun _ _ _ h => h) (Or.inl ⟨by rfl, fun w hSw => ?h4⟩) hHeld (fun hcl4 => ?r4)
  case h4 => (simp only [List.getElem_toArray, List.getElem_cons_succ, List.getElem_cons_zero]; obtain ⟨hS1, hS2, hS3, hS4, hS5⟩ := hSw; first | (go_simp; with_reducible rfl) | (go_simp; done) | rfl)
  simp only [List.getElem_toArray, List.getElem_cons_succ, List.getElem_cons_zero, Act.put, List.setIfInBounds_toArray, List.set_cons_zero, List.set_cons_succ]
  -- 8: Op.fieldAddr 25 (Operand.tmp 1) 2
  refine' anyZ_pure (i := 8) (v := _) rfl (by rfl) (by kernel_rfl) (by kernel_rfl) (by kernel_rfl) hcl4 (fun _ _ _ h => h) (Or.inl ⟨by rfl, fun w _ => ?h5⟩) (fun _ => hHeld) (fun hcl5 => ?r5)
  case h5 => (simp only [List.getElem_toArray, List.getElem_cons_succ, List.getElem_cons_zero]; first | (go_simp; with_reducible rfl) | (go_simp; done) | rfl)
  simp only [List.getElem_toArray, List.getElem_cons_succ, List.getElem_cons_zero, Act.put, List.setIfInBounds_toArray, List.set_cons_zero, List.set_cons_succ]
  -- 9: Op.load 22 (Operand.tmp 24)
  refine' anyZ_take (i := 9) (v := _) rfl (by rfl) (by kernel_rfl) (by kernel_rfl) (by kernel_rfl) hcl5 5 (by kernel_rfl) (by kernel_rfl) (fun _ _ _ h => h) (Or.inl ⟨by rfl, fun w hSw => ?h6⟩) hHeld (fun hcl6 => ?r6)
  case h6 => (simp only [List.getElem_toArray, List.getElem_cons_succ, List.getElem_cons_zero]; obtain ⟨hS1, hS2, hS3, hS4, hS5⟩ := hSw; first | (go_simp; with_reducible rfl) | (go_simp; done) | rfl)
  simp only [List.getElem_toArray, List.getElem_cons_succ, List.getElem_cons_zero, Act.put, List.setIfInBounds_toArray, List.set_cons_zero, List.set_cons_succ]
  -- 11: Op.fieldAddr 25 (Operand.tmp 1) 3
  refine' anyZ_pure (i := 11) (v := _) rfl (by rfl) (by kernel_rfl) (by kernel_rfl) (by kernel_rfl) hcl6 (fun _ _ _ h => h) (Or.inl ⟨by rfl, fun w _ => ?h7⟩) (fun _ => hHeld) (fun hcl7 => ?r7)
  case h7 => (simp only [List.getElem_toArray, List.getElem_cons_succ, List.getElem_cons_zero]; first | (go_simp; with_reducible rfl) | (go_simp; done) | rfl)
  simp only [List.getElem_toArray, List.getElem_cons_succ, List.getElem_cons_zero, Act.put, List.setIfInBounds_toArray, List.set_cons_zero, List.set_cons_succ]
  -- 12: Op.load 5 (Operand.tmp 27)
  refine' anyZ_take (i := 12) (v := _) rfl (by rfl) (by kernel_rfl) (by kernel_rfl) (by kernel_rfl) hcl7 5 (by kernel_rfl) (by kernel_rfl) (fun _ _ _ h => h) (Or.inl ⟨by rfl, fun w hSw => ?h8⟩) hHeld (fun hcl8 => ?r8)
  case h8 => (simp only [List.getElem_toArray, List.getElem_cons_succ, List.getElem_cons_zero]; obtain ⟨hS1, hS2, hS3, hS4, hS5⟩ := hSw; first | (go_simp; with_reducible rfl) | (go_simp; done) | rfl)
  simp only [List.getElem_toArray, List.getElem_cons_succ, List.getElem_cons_zero, Act.put, List.setIfInBounds_toArray, List.set_cons_zero, List.set_cons_succ]
  -- 13: Op.move (Operand.tmp 4)
  refine' anyZ_pure (i := 13) (v := _) rfl (by rfl) (by kernel_rfl) (by kernel_rfl) (by kernel_rfl) hcl8 (fun _ _ _ h => h) (Or.inl ⟨by rfl, fun w _ => ?h9⟩) (fun _ => hHeld) (fun hcl9 => ?r9)
  case h9 => (simp only [List.getElem_toArray, List.getElem_cons_succ, List.getElem_cons_zero]; first | (go_simp; with_reducible rfl) | (go_simp; done) | rfl)
  simp only [List.getElem_toArray, List.getElem_cons_succ, List.getElem_cons_zero, Act.put, List.setIfInBounds_toArray, List.set_cons_zero, List.set_cons_succ]
  -- 14: Op.binOp BinOp.shr 3 (Operand.tmp 29) (Operand.const (Value.
  refine' anyZ_pure (i := 14) (v := _) rfl (by rfl) (by kernel_rfl) (by kernel_rfl) (by kernel_rfl) hcl9 (fun _ _ _ h => h) (Or.inl ⟨by rfl, fun w _ => ?h10⟩) (fun _ => hHeld) (fun hcl10 => ?r10)
  case h10 => (simp only [List.getElem_toArray, List.getElem_cons_succ, List.getElem_cons_zero]; first | (go_simp; with_reducible rfl) | (go_simp; done) | rfl)
  simp only [List.getElem_toArray, List.getElem_cons_succ, List.getElem_cons_zero, Act.put, List.setIfInBounds_toArray, List.set_cons_zero, List.set_cons_succ]
  -- 15: Op.convert 3 5 (Operand.tmp 30)
  refine' anyZ_pure (i := 15) (v := _) rfl (by rfl) (by kernel_rfl) (by kernel_rfl) (by kernel_rfl) hcl10 (fun _ _ _ h => h) (Or.inl ⟨by rfl, fun w _ => ?h11⟩) (fun _ => hHeld) (fun hcl11 => ?r11)
  case h11 => (simp only [List.getElem_toArray, List.getElem_cons_succ, List.getElem_cons_zero]; first | (go_simp; with_reducible rfl) | (go_simp; done) | rfl)
  simp only [List.getElem_toArray, List.getElem_cons_succ, List.getElem_cons_zero, Act.put, List.setIfInBounds_toArray, List.set_cons_zero, List.set_cons_succ]
  -- 16: Op.move (Operand.tmp 4)
  refine' anyZ_pure (i := 16) (v := _) rfl (by rfl) (by kernel_rfl) (by kernel_rfl) (by kernel_rfl) hcl11 (fun _ _ _ h => h) (Or.inl ⟨by rfl, fun w _ => ?h12⟩) (fun _ => hHeld) (fun hcl12 => ?r12)
  case h12 => (simp only [List.getElem_toArray, List.getElem_cons_succ, List.getElem_cons_zero]; first | (go_simp; with_reducible rfl) | (go_simp; done) | rfl)
  simp only [List.getElem_toArray, List.getElem_cons_succ, List.getElem_cons_zero, Act.put, List.setIfInBounds_toArray, List.set_cons_zero, List.set_cons_succ]
  -- 17: Op.convert 3 5 (Operand.tmp 32)
  refine' anyZ_pure (i := 17) (v := _) rfl (by rfl) (by kernel_rfl) (by kernel_rfl) (by kernel_rfl) hcl12 (fun _ _ _ h => h) (Or.inl ⟨by rfl, fun w _ => ?h13⟩) (fun _ => hHeld) (fun hcl13 => ?r13)
  case h13 => (simp only [List.getElem_toArray, List.getElem_cons_succ, List.getElem_cons_zero]; first | (go_simp; with_reducible rfl) | (go_simp; done) | rfl)
  simp only [List.getElem_toArray, List.getElem_cons_succ, List.getElem_cons_zero, Act.put, List.setIfInBounds_toArray, List.set_cons_zero, List.set_cons_succ]
  -- 19: Op.fieldAddr 25 (Operand.tmp 1) 4
  refine' anyZ_pure (i := 19) (v := _) rfl (by rfl) (by kernel_rfl) (by kernel_rfl) (by kernel_rfl) hcl13 (fun _ _ _ h => h) (Or.inl ⟨by rfl, fun w _ => ?h14⟩) (fun _ => hHeld) (fun hcl14 => ?r14)
  case h14 => (simp only [List.getElem_toArray, List.getElem_cons_succ, List.getElem_cons_zero]; first | (go_simp; with_reducible rfl) | (go_simp; done) | rfl)
  simp only [List.getElem_toArray, List.getElem_cons_succ, List.getElem_cons_zero, Act.put, List.setIfInBounds_toArray, List.set_cons_zero, List.set_cons_succ]
  -- 20: Op.load 23 (Operand.tmp 35)
  refine' anyZ_take (i := 20) (v := _) rfl (by rfl) (by kernel_rfl) (by kernel_rfl) (by kernel_rfl) hcl14 5 (by kernel_rfl) (by kernel_rfl) (fun _ _ _ h => h) (Or.inl ⟨by rfl, fun w hSw => ?h15⟩) hHeld (fun hcl15 => ?r15)
  case h15 => (simp only [List.getElem_toArray, List.getElem_cons_succ, List.getElem_cons_zero]; obtain ⟨hS1, hS2, hS3, hS4, hS5⟩ := hSw; first | (go_simp; with_reducible rfl) | (go_simp; done) | rfl)
  simp only [List.getElem_toArray, List.getElem_cons_succ, List.getElem_cons_zero, Act.put, List.setIfInBounds_toArray, List.set_cons_zero, List.set_cons_succ]
  -- 21: Op.move (Operand.tmp 4)
  refine' anyZ_pure (i := 21) (v := _) rfl (by rfl) (by kernel_rfl) (by kernel_rfl) (by kernel_rfl) hcl15 (fun _ _ _ h => h) (Or.inl ⟨by rfl, fun w _ => ?h16⟩) (fun _ => hHeld) (fun hcl16 => ?r16)
  case h16 => (simp only [List.getElem_toArray, List.getElem_cons_succ, List.getElem_cons_zero]; first | (go_simp; with_reducible rfl) | (go_simp; done) | rfl)
  simp only [List.getElem_toArray, List.getElem_cons_succ, List.getElem_cons_zero, Act.put, List.setIfInBounds_toArray, List.set_cons_zero, List.set_cons_succ]
  -- 22: Op.binOp BinOp.sub 3 (Operand.const (Value.int IntKind.i64 4
  refine' anyZ_pure (i := 22) (v := _) rfl (by rfl) (by kernel_rfl) (by kernel_rfl) (by kernel_rfl) hcl16 (fun _ _ _ h => h) (Or.inl ⟨by rfl, fun w _ => ?h17⟩) (fun _ => hHeld) (fun hcl17 => ?r17)
  case h17 => (simp only [List.getElem_toArray, List.getElem_cons_succ, List.getElem_cons_zero]; first | (go_simp; with_reducible rfl) | (go_simp; done) | rfl)
  simp only [List.getElem_toArray, List.getElem_cons_succ, List.getElem_cons_zero, Act.put, List.setIfInBounds_toArray, List.set_cons_zero, List.set_cons_succ]
  refine anyZ_cast (listed' := #[false, false, true, true, false, true, true, false, true, true, false, true, true, true, true, true, true, true, false, true, true, true, true, false, false, false, false]) (by kernel_rfl) ?_
  refine anyZ_name (fun T Wp R HT HR Hop HE => ?_)
  generalize hA : Act.mk _ _ = A
  have E19 : A.eval (.tmp 19) = .int .u32 p.gen := by rw [← hA]; rfl
  have E22 : A.eval (.tmp 22) = .int .u32 p.serial := by rw [← hA]; rfl
  have E25 : A.eval (.tmp 25) = .int .u32 p.number := by rw [← hA]; rfl
  have E28 : A.eval (.tmp 28) = .int .u8 p.kind := by rw [← hA]; rfl
  have E31 : A.eval (.tmp 31) = .int .u8 ((p.data.length / 256 % 256 : Nat) : Int) := by rw [← hA, ← wrap8, show ((p.data.length / 256 : Nat) : Int) = (p.data.length : Int) / 256 by omega]; rfl
  have E33 : A.eval (.tmp 33) = .int .u8 ((p.data.length % 256 : Nat) : Int) := by rw [← hA, ← wrap8]; rfl
  obtain ⟨rm, hrm⟩ : ∃ rm : Nat, rm = 491 - p.data.length := ⟨_, rfl⟩
  have E38 : A.eval (.tmp 38) = .int .i64 rm := by rw [← hA, show (rm : Int) = IntKind.i64.wrap (491 - (p.data.length : Int)) by rw [IntKind.wrap_i64]; omega]; rfl
  have ep : ∀ (g : Nat), (A.put (some 16) (.slice (some ⟨g, 0, none⟩) 2 2)).eval (.tmp 16) = .slice (some ⟨g, 0, none⟩) 2 2 := fun g => eval_hit A 16 _ (by rw [← hA]; show (16 : Nat) < 45; decide)
  have HA := Lib.hid hA
  have HRM := Lib.hid hrm
  have hrm1 : rm ≤ 1000000 := by omega
  clear hA hrm
  have M0 : ∀ (a : Act) (w1 : World) (K : Act → World → Prop), Below W.heap.size W w1 → (∀ g w2, Lit w2 g #[.int .u8 104, .int .u8 103] 5 W.heap.size → Below w1.heap.size w1 w2 → K (a.put (some 16) (.slice (some ⟨g, 0, none⟩) 2 2)) w2) → Wp 0 K a w1 := by
    intro a w1 K hb hK
    refine Hop 0 _ a w1 K (by simp only [List.getElem?_toArray, List.getElem?_cons_zero]; rfl) rfl ?_
    have hsz := hb.size
    go_simp
    exact hK _ _ ⟨⟨_, heap_alloc_new w1 _⟩, hsz⟩ (bal (bre w1) _)
  have M1 : ∀ (a : Act) (w1 : World) (K : Act → World → Prop) {g : Nat}, a.eval (.tmp 16) = .slice (some ⟨g, 0, none⟩) 2 2 → Lit w1 g #[.int .u8 104, .int .u8 103] 5 W.heap.size →
      (∀ w2, Below W.heap.size w1 w2 → (∀ (p : Addr) u, w1.cell? p = some u → w2.cell? p = some u) → Lit w2 g #[.int .u8 104, .int .u8 103] 5 W.heap.size → K (a.put (some 17) (.slice (some ⟨g, 0, none⟩) 2 2)) w2) → Wp 1 K a w1 := by
    intro a w1 K g he hl hK
    simp only [Act.eval, Array.getD_eq_getD_getElem?] at he
    obtain ⟨⟨fr, hg⟩, hB⟩ := id hl
    have hcv := run_conv_mark (P := Tryd.prog) w1 23 5 g 2 2 _ fr hg Tryd.underlying23 Tryd.underlying5
    refine Hop 1 _ a w1 K (by simp only [List.getElem?_toArray, List.getElem?_cons_succ, List.getElem?_cons_zero]; rfl) rfl ?_
    have hk2 := freeze_cells w1 g 2 _ _ fr hg
    have hb2 := freeze_below w1 g 2 W.heap.size hB
    have hl2 : Lit (w1.freeze ⟨g, 2, none⟩ 1) g #[.int .u8 104, .int .u8 103] 5 W.heap.size := ⟨freeze_own w1 g 2 _ _ fr hg, hB⟩
    have H2 := Lib.hid hk2
    have H3 := Lib.hid hb2
    have H4 := Lib.hid hl2
    have H5 := Lib.hid hK
    have hcv' : (convert 23 23 (.slice (some ⟨g, 0, none⟩) 2 2)).run Tryd.prog w1 = .ok (.slice (some ⟨g, 0, none⟩) 2 2) (w1.freeze ⟨g, 2, none⟩ 1) := hcv
    clear hk2 hb2 hl2 hK hcv hg hl hB
    go_simp
    exact H5.out _ H3.out H2.out H4.out
  have M4 : ∀ (a : Act) (w1 : World) (K : Act → World → Prop), a.eval (.tmp 19) = .int .u32 p.gen → (∀ ad c w2, Bytes w2 (.slice ad 4 c) (be4 p.gen) → Below w1.heap.size w1 w2 → K (a.put (some 20) (.slice ad 4 c)) w2) → Wp 4 K a w1 := by
    intro a w1 K he hK
    exact Hop 4 _ a w1 K (by simp only [List.getElem?_toArray, List.getElem?_cons_succ, List.getElem?_cons_zero]; rfl) rfl (four_step 19 20 p.gen o1 _ a w1 K _ rfl rfl he hK)
  have M7 : ∀ (a : Act) (w1 : World) (K : Act → World → Prop), a.eval (.tmp 22) = .int .u32 p.serial → (∀ ad c w2, Bytes w2 (.slice ad 4 c) (be4 p.serial) → Below w1.heap.size w1 w2 → K (a.put (some 23) (.slice ad 4 c)) w2) → Wp 7 K a w1 := by
    intro a w1 K he hK
    exact Hop 7 _ a w1 K (by simp only [List.getElem?_toArray, List.getElem?_cons_succ, List.getElem?_cons_zero]; rfl) rfl (four_step 22 23 p.serial o2 _ a w1 K _ rfl rfl he hK)
  have M10 : ∀ (a : Act) (w1 : World) (K : Act → World → Prop), a.eval (.tmp 25) = .int .u32 p.number → (∀ ad c w2, Bytes w2 (.slice ad 4 c) (be4 p.number) → Below w1.heap.size w1 w2 → K (a.put (some 26) (.slice ad 4 c)) w2) → Wp 10 K a w1 := by
    intro a w1 K he hK
    exact Hop 10 _ a w1 K (by simp only [List.getElem?_toArray, List.getElem?_cons_succ, List.getElem?_cons_zero]; rfl) rfl (four_step 25 26 p.number o3 _ a w1 K _ rfl rfl he hK)
  have M18 : ∀ (a : Act) (w1 : World) (K : Act → World → Prop), a.eval (.tmp 28) = .int .u8 p.kind → a.eval (.tmp 31) = .int .u8 ((p.data.length / 256 % 256 : Nat) : Int) → a.eval (.tmp 33) = .int .u8 ((p.data.length % 256 : Nat) : Int) → (∀ ad c w2, Bytes w2 (.slice ad 3 c) (UInt8.ofNat p.kind :: be2 p.data.length) → Below w1.heap.size w1 w2 → K (a.put (some 34) (.slice ad 3 c)) w2) → Wp 18 K a w1 := by
    intro a w1 K e1 e2 e3 hK
    simp only [Act.eval, Array.getD_eq_getD_getElem?] at e1 e2 e3
    refine Hop 18 _ a w1 K (by simp only [List.getElem?_toArray, List.getElem?_cons_succ, List.getElem?_cons_zero]; rfl) rfl ?_
    go_simp
    refine hK _ _ _ (own8_lit _ w1 _ (UInt8.ofNat p.kind :: be2 p.data.length) 3 ?_ rfl (by simp [be2, maxLen])).bytes (bal (bre w1) _)
    simp only [be2, List.map_cons, List.map_nil]
    rw [B8_ofNat _ o4, B8_ofNat _ (by omega), B8_ofNat _ (by omega)]
    simp
  have M23 : ∀ (a : Act) (w1 : World) (K : Act → World → Prop), a.eval (.tmp 38) = .int .i64 rm → (∀ ad c w2, Bytes w2 (.slice ad rm c) (List.replicate rm 0) → Below w1.heap.size w1 w2 → K (a.put (some 39) (.slice ad rm c)) w2) → Wp 23 K a w1 := by
    intro a w1 K he hK
    refine Hop 23 _ a w1 K (by simp only [List.getElem?_toArray, List.getElem?_cons_succ, List.getElem?_cons_zero]; rfl) rfl ?_
    refine wp_make8 _ _ 23 5 make8 rfl rm he he hrm1 ?_
    intro w2 hm2 hb2
    exact hK _ _ w2 hm2.bytes hb2
  clear Hop
  have st0_1_4_7_10_18_23_ : ∀ (g16 : Nat) (a20 : Option Addr) (c20 : Nat) (a23 : Option Addr) (c23 : Nat) (a26 : Option Addr) (c26 : Nat) (a34 : Option Addr) (c34 : Nat) (a39 : Option Addr) (c39 : Nat) (w1 : World), Below W.heap.size W w1 → Lit w1 g16 #[.int .u8 104, .int .u8 103] 5 W.heap.size → Bytes w1 (.slice a20 4 c20) (be4 p.gen) → Bytes w1 (.slice a23 4 c23) (be4 p.serial) → Bytes w1 (.slice a26 4 c26) (be4 p.number) → Bytes w1 (.slice a34 3 c34) (UInt8.ofNat p.kind :: be2 p.data.length) → Bytes w1 (.slice a39 rm c39) (List.replicate rm 0) → T 3 #[true, true, true, true, true, true, true, true, true, true, true, true, true, true, true, true, true, true, true, true, true, true, true, true, false, false, false] (((((((A.put (some 16) (.slice (some ⟨g16, 0, none⟩) 2 2)).put (some 17) (.slice (some ⟨g16, 0, none⟩) 2 2)).put (some 20) (.slice a20 4 c20)).put (some 23) (.slice a23 4 c23)).put (some 26) (.slice a26 4 c26)).put (some 34) (.slice a34 3 c34)).put (some 39) (.slice a39 rm c39)) w1 := by
    intro g16 a20 c20 a23 c23 a26 c26 a34 c34 a39 c39 w1 hb f16 f20 f23 f26 f34 f39
    refine HE _ _ _ _ (anyZ_chain_at (by kernel_rfl) ?_)
    simp only [List.drop_succ_cons, List.drop_zero]
    rw [← HA.out]
    simp only [Act.put, List.setIfInBounds_toArray, List.set_cons_zero, List.set_cons_succ]
    have hfl : [mark, be4 p.gen, be4 p.serial, be4 p.number, UInt8.ofNat p.kind :: be2 p.data.length, p.data, List.replicate rm 0].flatten = p.raw := by
      unfold Pg.raw Pg.head
      rw [HRM.out]
      simp [List.append_assoc]
    have hrl := raw_length p hd
    have hrow : ∀ (j : Nat) (v : Value) (l : List UInt8), [Value.slice (some ⟨g16, 0, none⟩) 2 2, .slice a20 4 c20, .slice a23 4 c23, .slice a26 4 c26, .slice a34 3 c34, .slice ad p.data.length cd, .slice a39 rm c39][j]? = some v → [mark, be4 p.gen, be4 p.serial, be4 p.number, UInt8.ofNat p.kind :: be2 p.data.length, p.data, List.replicate rm 0][j]? = some l → Bytes w1 v l := by
      intro j v l h1 h2
      match j, h1, h2 with
      | 0, h1, h2 => cases h1; cases h2; exact f16.bytes (l := mark) rfl rfl (by decide)
      | 1, h1, h2 => cases h1; cases h2; exact f20
      | 2, h1, h2 => cases h1; cases h2; exact f23
      | 3, h1, h2 => cases h1; cases h2; exact f26
      | 4, h1, h2 => cases h1; cases h2; exact f34
      | 5, h1, h2 => cases h1; cases h2; exact HDW.out.below hb
      | 6, h1, h2 => cases h1; cases h2; exact f39
      | j + 7, h1, h2 => cases h1
    have hbj := bjoin_any w1 _ _ 23 w1.heap.size 7 rfl rfl rfl (by simp) (by simp) (by rw [hfl, hrl]; omega) hrow
    rw [hfl] at hbj
    have HBJ := Lib.hid hbj
    clear hbj hrow hfl
    clear HT HR HE M0 M1 M4 M7 M10 M18 M23 E19 E22 E25 E28 E31 E33 E38 ep f16 f20 f23 f26 f34 f39
    go_wp2_with fail
    refine HBJ.out.mono ?_
    rintro e w2 ⟨v2, rfl, hy2, hb2⟩
    have hb02 := HB0.out.trans ((btr (btr hb (bal (bre w1) _)) hb2).mono HB0.out.size)
    obtain ⟨a2, c2, rfl, -⟩ := id hy2
    rw [hrl] at hy2 ⊢
    have HY2 := Lib.hid hy2
    have HB02 := Lib.hid hb02
    clear hb2 hy2 hb02
    go_wp2_with fail
    refine (make_any w2).mono ?_
    rintro e w3 ⟨rfl, hb3⟩
    have hb03 := HB02.out.trans (hb3.mono HB02.out.size)
    have HY3 := Lib.hid (HY2.out.below hb3)
    have HB03 := Lib.hid hb03
    clear hb3 hb03
    go_wp2_with fail
    refine (seal_any _ p.raw w3 HY3.out (by rw [hrl]; omega)).mono ?_
    rintro e w4 ⟨v4, rfl, ho4, hb4⟩
    have ho5 := ownsRow_base (base' := w.heap.size) ho4 HB03.out.size
    have HO5 := Lib.hid ho5
    have HB04 := Lib.hid (HB03.out.trans (hb4.mono HB03.out.size))
    clear ho4 hb4 ho5
    go_wp2_with fail
    go_ret2
    exact ⟨v4, rfl, HO5.out, HB04.out⟩
  have st0_4_7_10_18_23_ : ∀ (g16 : Nat) (a20 : Option Addr) (c20 : Nat) (a23 : Option Addr) (c23 : Nat) (a26 : Option Addr) (c26 : Nat) (a34 : Option Addr) (c34 : Nat) (a39 : Option Addr) (c39 : Nat) (w1 : World), Below W.heap.size W w1 → Lit w1 g16 #[.int .u8 104, .int .u8 103] 5 W.heap.size → Bytes w1 (.slice a20 4 c20) (be4 p.gen) → Bytes w1 (.slice a23 4 c23) (be4 p.serial) → Bytes w1 (.slice a26 4 c26) (be4 p.number) → Bytes w1 (.slice a34 3 c34) (UInt8.ofNat p.kind :: be2 p.data.length) → Bytes w1 (.slice a39 rm c39) (List.replicate rm 0) → T 4 #[true, false, true, true, true, true, true, true, true, true, true, true, true, true, true, true, true, true, true, true, true, true, true, true, false, false, false] ((((((A.put (some 16) (.slice (some ⟨g16, 0, none⟩) 2 2)).put (some 20) (.slice a20 4 c20)).put (some 23) (.slice a23 4 c23)).put (some 26) (.slice a26 4 c26)).put (some 34) (.slice a34 3 c34)).put (some 39) (.slice a39 rm c39)) w1 := by
    intro g16 a20 c20 a23 c23 a26 c26 a34 c34 a39 c39 w1 hb f16 f20 f23 f26 f34 f39
    refine HT _ _ _ _ [1] (by rw [HR]; kernel_rfl) (by decide) ?_
    refine List.forall_mem_cons.2 ⟨?_, fun _ h => by cases h⟩
    · refine M1 _ _ _ (by rw [eval_put _ 39 16 _ (by decide), eval_put _ 34 16 _ (by decide), eval_put _ 26 16 _ (by decide), eval_put _ 23 16 _ (by decide), eval_put _ 20 16 _ (by decide)]; exact ep _) f16 (fun w2 hb2 hk2 hl2 => ⟨fun _ => HSB.out w2 (hb.trans hb2), ?_⟩)
      rw [show (#[true, false, true, true, true, true, true, true, true, true, true, true, true, true, true, true, true, true, true, true, true, true, true, true, false, false, false] : Array Bool).setIfInBounds 1 true = #[true, true, true, true, true, true, true, true, true, true, true, true, true, true, true, true, true, true, true, true, true, true, true, true, false, false, false] from by kernel_rfl, put_swap _ 39 17 _ _ (by decide), put_swap _ 34 17 _ _ (by decide), put_swap _ 26 17 _ _ (by decide), put_swap _ 23 17 _ _ (by decide), put_swap _ 20 17 _ _ (by decide)]
      exact st0_1_4_7_10_18_23_ g16 a20 c20 a23 c23 a26 c26 a34 c34 a39 c39 w2 (hb.trans hb2) hl2 (f20.cells hk2) (f23.cells hk2) (f26.cells hk2) (f34.cells hk2) (f39.cells hk2)
  have st0_1_4_7_10_23_ : ∀ (g16 : Nat) (a20 : Option Addr) (c20 : Nat) (a23 : Option Addr) (c23 : Nat) (a26 : Option Addr) (c26 : Nat) (a39 : Option Addr) (c39 : Nat) (w1 : World), Below W.heap.size W w1 → Lit w1 g16 #[.int .u8 104, .int .u8 103] 5 W.heap.size → Bytes w1 (.slice a20 4 c20) (be4 p.gen) → Bytes w1 (.slice a23 4 c23) (be4 p.serial) → Bytes w1 (.slice a26 4 c26) (be4 p.number) → Bytes w1 (.slice a39 rm c39) (List.replicate rm 0) → T 4 #[true, true, true, true, true, true, true, true, true, true, true, true, true, true, true, true, true, true, false, true, true, true, true, true, false, false, false] ((((((A.put (some 16) (.slice (some ⟨g16, 0, none⟩) 2 2)).put (some 17) (.slice (some ⟨g16, 0, none⟩) 2 2)).put (some 20) (.slice a20 4 c20)).put (some 23) (.slice a23 4 c23)).put (some 26) (.slice a26 4 c26)).put (some 39) (.slice a39 rm c39)) w1 := by
    intro g16 a20 c20 a23 c23 a26 c26 a39 c39 w1 hb f16 f20 f23 f26 f39
    refine HT _ _ _ _ [18] (by rw [HR]; kernel_rfl) (by decide) ?_
    refine List.forall_mem_cons.2 ⟨?_, fun _ h => by cases h⟩
    · refine M18 _ _ _ (by rw [eval_put _ 39 28 _ (by decide), eval_put _ 26 28 _ (by decide), eval_put _ 23 28 _ (by decide), eval_put _ 20 28 _ (by decide), eval_put _ 17 28 _ (by decide), eval_put _ 16 28 _ (by decide)]; exact E28) (by rw [eval_put _ 39 31 _ (by decide), eval_put _ 26 31 _ (by decide), eval_put _ 23 31 _ (by decide), eval_put _ 20 31 _ (by decide), eval_put _ 17 31 _ (by decide), eval_put _ 16 31 _ (by decide)]; exact E31) (by rw [eval_put _ 39 33 _ (by decide), eval_put _ 26 33 _ (by decide), eval_put _ 23 33 _ (by decide), eval_put _ 20 33 _ (by decide), eval_put _ 17 33 _ (by decide), eval_put _ 16 33 _ (by decide)]; exact E33) (fun a34 c34 w2 hf hb2 => ⟨fun _ => HSB.out w2 (btr hb hb2), ?_⟩)
      rw [show (#[true, true, true, true, true, true, true, true, true, true, true, true, true, true, true, true, true, true, false, true, true, true, true, true, false, false, false] : Array Bool).setIfInBounds 18 true = #[true, true, true, true, true, true, true, true, true, true, true, true, true, true, true, true, true, true, true, true, true, true, true, true, false, false, false] from by kernel_rfl, put_swap _ 39 34 _ _ (by decide)]
      exact st0_1_4_7_10_18_23_ g16 a20 c20 a23 c23 a26 c26 a34 c34 a39 c39 w2 (btr hb hb2) (f16.below hb2) (f20.below hb2) (f23.below hb2) (f26.below hb2) hf (f39.below hb2)
  have st0_1_4_7_10_18_ : ∀ (g16 : Nat) (a20 : Option Addr) (c20 : Nat) (a23 : Option Addr) (c23 : Nat) (a26 : Option Addr) (c26 : Nat) (a34 : Option Addr) (c34 : Nat) (w1 : World), Below W.heap.size W w1 → Lit w1 g16 #[.int .u8 104, .int .u8 103] 5 W.heap.size → Bytes w1 (.slice a20 4 c20) (be4 p.gen) → Bytes w1 (.slice a23 4 c23) (be4 p.serial) → Bytes w1 (.slice a26 4 c26) (be4 p.number) → Bytes w1 (.slice a34 3 c34) (UInt8.ofNat p.kind :: be2 p.data.length) → T 4 #[true, true, true, true, true, true, true, true, true, true, true, true, true, true, true, true, true, true, true, true, true, true, true, false, false, false, false] ((((((A.put (some 16) (.slice (some ⟨g16, 0, none⟩) 2 2)).put (some 17) (.slice (some ⟨g16, 0, none⟩) 2 2)).put (some 20) (.slice a20 4 c20)).put (some 23) (.slice a23 4 c23)).put (some 26) (.slice a26 4 c26)).put (some 34) (.slice a34 3 c34)) w1 := by
    intro g16 a20 c20 a23 c23 a26 c26 a34 c34 w1 hb f16 f20 f23 f26 f34
    refine HT _ _ _ _ [23] (by rw [HR]; kernel_rfl) (by decide) ?_
    refine List.forall_mem_cons.2 ⟨?_, fun _ h => by cases h⟩
    · refine M23 _ _ _ (by rw [eval_put _ 34 38 _ (by decide), eval_put _ 26 38 _ (by decide), eval_put _ 23 38 _ (by decide), eval_put _ 20 38 _ (by decide), eval_put _ 17 38 _ (by decide), eval_put _ 16 38 _ (by decide)]; exact E38) (fun a39 c39 w2 hf hb2 => ⟨fun _ => HSB.out w2 (btr hb hb2), ?_⟩)
      rw [show (#[true, true, true, true, true, true, true, true, true, true, true, true, true, true, true, true, true, true, true, true, true, true, true, false, false, false, false] : Array Bool).setIfInBounds 23 true = #[true, true, true, true, true, true, true, true, true, true, true, true, true, true, true, true, true, true, true, true, true, true, true, true, false, false, false] from by kernel_rfl]
      exact st0_1_4_7_10_18_23_ g16 a20 c20 a23 c23 a26 c26 a34 c34 a39 c39 w2 (btr hb hb2) (f16.below hb2) (f20.below hb2) (f23.below hb2) (f26.below hb2) (f34.below hb2) hf
  have st0_1_4_7_18_23_ : ∀ (g16 : Nat) (a20 : Option Addr) (c20 : Nat) (a23 : Option Addr) (c23 : Nat) (a34 : Option Addr) (c34 : Nat) (a39 : Option Addr) (c39 : Nat) (w1 : World), Below W.heap.size W w1 → Lit w1 g16 #[.int .u8 104, .int .u8 103] 5 W.heap.size → Bytes w1 (.slice a20 4 c20) (be4 p.gen) → Bytes w1 (.slice a23 4 c23) (be4 p.serial) → Bytes w1 (.slice a34 3 c34) (UInt8.ofNat p.kind :: be2 p.data.length) → Bytes w1 (.slice a39 rm c39) (List.replicate rm 0) → T 4 #[true, true, true, true, true, true, true, true, true, true, false, true, true, true, true, true, true, true, true, true, true, true, true, true, false, false, false] ((((((A.put (some 16) (.slice (some ⟨g16, 0, none⟩) 2 2)).put (some 17) (.slice (some ⟨g16, 0, none⟩) 2 2)).put (some 20) (.slice a20 4 c20)).put (some 23) (.slice a23 4 c23)).put (some 34) (.slice a34 3 c34)).put (some 39) (.slice a39 rm c39)) w1 := by
    intro g16 a20 c20 a23 c23 a34 c34 a39 c39 w1 hb f16 f20 f23 f34 f39
    refine HT _ _ _ _ [10] (by rw [HR]; kernel_rfl) (by decide) ?_
    refine List.forall_mem_cons.2 ⟨?_, fun _ h => by cases h⟩
    · refine M10 _ _ _ (by rw [eval_put _ 39 25 _ (by decide), eval_put _ 34 25 _ (by decide), eval_put _ 23 25 _ (by decide), eval_put _ 20 25 _ (by decide), eval_put _ 17 25 _ (by decide), eval_put _ 16 25 _ (by decide)]; exact E25) (fun a26 c26 w2 hf hb2 => ⟨fun _ => HSB.out w2 (btr hb hb2), ?_⟩)
      rw [show (#[true, true, true, true, true, true, true, true, true, true, false, true, true, true, true, true, true, true, true, true, true, true, true, true, false, false, false] : Array Bool).setIfInBounds 10 true = #[true, true, true, true, true, true, true, true, true, true, true, true, true, true, true, true, true, true, true, true, true, true, true, true, false, false, false] from by kernel_rfl, put_swap _ 39 26 _ _ (by decide), put_swap _ 34 26 _ _ (by decide)]
      exact st0_1_4_7_10_18_23_ g16 a20 c20 a23 c23 a26 c26 a34 c34 a39 c39 w2 (btr hb hb2) (f16.below hb2) (f20.below hb2) (f23.below hb2) hf (f34.below hb2) (f39.below hb2)
  have st0_1_4_18_23_ : ∀ (g16 : Nat) (a20 : Option Addr) (c20 : Nat) (a34 : Option Addr) (c34 : Nat) (a39 : Option Addr) (c39 : Nat) (w1 : World), Below W.heap.size W w1 → Lit w1 g16 #[.int .u8 104, .int .u8 103] 5 W.heap.size → Bytes w1 (.slice a20 4 c20) (be4 p.gen) → Bytes w1 (.slice a34 3 c34) (UInt8.ofNat p.kind :: be2 p.data.length) → Bytes w1 (.slice a39 rm c39) (List.replicate rm 0) → T 5 #[true, true, true, true, true, true, true, false, true, true, false, true, true, true, true, true, true, true, true, true, true, true, true, true, false, false, false] (((((A.put (some 16) (.slice (some ⟨g16, 0, none⟩) 2 2)).put (some 17) (.slice (some ⟨g16, 0, none⟩) 2 2)).put (some 20) (.slice a20 4 c20)).put (some 34) (.slice a34 3 c34)).put (some 39) (.slice a39 rm c39)) w1 := by
    intro g16 a20 c20 a34 c34 a39 c39 w1 hb f16 f20 f34 f39
    refine HT _ _ _ _ [7] (by rw [HR]; kernel_rfl) (by decide) ?_
    refine List.forall_mem_cons.2 ⟨?_, fun _ h => by cases h⟩
    · refine M7 _ _ _ (by rw [eval_put _ 39 22 _ (by decide), eval_put _ 34 22 _ (by decide), eval_put _ 20 22 _ (by decide), eval_put _ 17 22 _ (by decide), eval_put _ 16 22 _ (by decide)]; exact E22) (fun a23 c23 w2 hf hb2 => ⟨fun _ => HSB.out w2 (btr hb hb2), ?_⟩)
      rw [show (#[true, true, true, true, true, true, true, false, true, true, false, true, true, true, true, true, true, true, true, true, true, true, true, true, false, false, false] : Array Bool).setIfInBounds 7 true = #[true, true, true, true, true, true, true, true, true, true, false, true, true, true, true, true, true, true, true, true, true, true, true, true, false, false, false] from by kernel_rfl, put_swap _ 39 23 _ _ (by decide), put_swap _ 34 23 _ _ (by decide)]
      exact st0_1_4_7_18_23_ g16 a20 c20 a23 c23 a34 c34 a39 c39 w2 (btr hb hb2) (f16.below hb2) (f20.below hb2) hf (f34.below hb2) (f39.below hb2)
  have st0_4_7_10_18_ : ∀ (g16 : Nat) (a20 : Option Addr) (c20 : Nat) (a23 : Option Addr) (c23 : Nat) (a26 : Option Addr) (c26 : Nat) (a34 : Option Addr) (c34 : Nat) (w1 : World), Below W.heap.size W w1 → Lit w1 g16 #[.int .u8 104, .int .u8 103] 5 W.heap.size → Bytes w1 (.slice a20 4 c20) (be4 p.gen) → Bytes w1 (.slice a23 4 c23) (be4 p.serial) → Bytes w1 (.slice a26 4 c26) (be4 p.number) → Bytes w1 (.slice a34 3 c34) (UInt8.ofNat p.kind :: be2 p.data.length) → T 5 #[true, false, true, true, true, true, true, true, true, true, true, true, true, true, true, true, true, true, true, true, true, true, true, false, false, false, false] (((((A.put (some 16) (.slice (some ⟨g16, 0, none⟩) 2 2)).put (some 20) (.slice a20 4 c20)).put (some 23) (.slice a23 4 c23)).put (some 26) (.slice a26 4 c26)).put (some 34) (.slice a34 3 c34)) w1 := by
    intro g16 a20 c20 a23 c23 a26 c26 a34 c34 w1 hb f16 f20 f23 f26 f34
    refine HT _ _ _ _ [1, 23] (by rw [HR]; kernel_rfl) (by decide) ?_
    refine List.forall_mem_cons.2 ⟨?_, List.forall_mem_cons.2 ⟨?_, fun _ h => by cases h⟩⟩
    · refine M1 _ _ _ (by rw [eval_put _ 34 16 _ (by decide), eval_put _ 26 16 _ (by decide), eval_put _ 23 16 _ (by decide), eval_put _ 20 16 _ (by decide)]; exact ep _) f16 (fun w2 hb2 hk2 hl2 => ⟨fun _ => HSB.out w2 (hb.trans hb2), ?_⟩)
      rw [show (#[true, false, true, true, true, true, true, true, true, true, true, true, true, true, true, true, true, true, true, true, true, true, true, false, false, false, false] : Array Bool).setIfInBounds 1 true = #[true, true, true, true, true, true, true, true, true, true, true, true, true, true, true, true, true, true, true, true, true, true, true, false, false, false, false] from by kernel_rfl, put_swap _ 34 17 _ _ (by decide), put_swap _ 26 17 _ _ (by decide), put_swap _ 23 17 _ _ (by decide), put_swap _ 20 17 _ _ (by decide)]
      exact st0_1_4_7_10_18_ g16 a20 c20 a23 c23 a26 c26 a34 c34 w2 (hb.trans hb2) hl2 (f20.cells hk2) (f23.cells hk2) (f26.cells hk2) (f34.cells hk2)
    · refine M23 _ _ _ (by rw [eval_put _ 34 38 _ (by decide), eval_put _ 26 38 _ (by decide), eval_put _ 23 38 _ (by decide), eval_put _ 20 38 _ (by decide), eval_put _ 16 38 _ (by decide)]; exact E38) (fun a39 c39 w2 hf hb2 => ⟨fun _ => HSB.out w2 (btr hb hb2), ?_⟩)
      rw [show (#[true, false, true, true, true, true, true, true, true, true, true, true, true, true, true, true, true, true, true, true, true, true, true, false, false, false, false] : Array Bool).setIfInBounds 23 true = #[true, false, true, true, true, true, true, true, true, true, true, true, true, true, true, true, true, true, true, true, true, true, true, true, false, false, false] from by kernel_rfl]
      exact st0_4_7_10_18_23_ g16 a20 c20 a23 c23 a26 c26 a34 c34 a39 c39 w2 (btr hb hb2) (f16.below hb2) (f20.below hb2) (f23.below hb2) (f26.below hb2) (f34.below hb2) hf
  have st0_1_4_7_18_ : ∀ (g16 : Nat) (a20 : Option Addr) (c20 : Nat) (a23 : Option Addr) (c23 : Nat) (a34 : Option Addr) (c34 : Nat) (w1 : World), Below W.heap.size W w1 → Lit w1 g16 #[.int .u8 104, .int .u8 103] 5 W.heap.size → Bytes w1 (.slice a20 4 c20) (be4 p.gen) → Bytes w1 (.slice a23 4 c23) (be4 p.serial) → Bytes w1 (.slice a34 3 c34) (UInt8.ofNat p.kind :: be2 p.data.length) → T 5 #[true, true, true, true, true, true, true, true, true, true, false, true, true, true, true, true, true, true, true, true, true, true, true, false, false, false, false] (((((A.put (some 16) (.slice (some ⟨g16, 0, none⟩) 2 2)).put (some 17) (.slice (some ⟨g16, 0, none⟩) 2 2)).put (some 20) (.slice a20 4 c20)).put (some 23) (.slice a23 4 c23)).put (some 34) (.slice a34 3 c34)) w1 := by
    intro g16 a20 c20 a23 c23 a34 c34 w1 hb f16 f20 f23 f34
    refine HT _ _ _ _ [10, 23] (by rw [HR]; kernel_rfl) (by decide) ?_
    refine List.forall_mem_cons.2 ⟨?_, List.forall_mem_cons.2 ⟨?_, fun _ h => by cases h⟩⟩
    · refine M10 _ _ _ (by rw [eval_put _ 34 25 _ (by decide), eval_put _ 23 25 _ (by decide), eval_put _ 20 25 _ (by decide), eval_put _ 17 25 _ (by decide), eval_put _ 16 25 _ (by decide)]; exact E25) (fun a26 c26 w2 hf hb2 => ⟨fun _ => HSB.out w2 (btr hb hb2), ?_⟩)
      rw [show (#[true, true, true, true, true, true, true, true, true, true, false, true, true, true, true, true, true, true, true, true, true, true, true, false, false, false, false] : Array Bool).setIfInBounds 10 true = #[true, true, true, true, true, true, true, true, true, true, true, true, true, true, true, true, true, true, true, true, true, true, true, false, false, false, false] from by kernel_rfl, put_swap _ 34 26 _ _ (by decide)]
      exact st0_1_4_7_10_18_ g16 a20 c20 a23 c23 a26 c26 a34 c34 w2 (btr hb hb2) (f16.below hb2) (f20.below hb2) (f23.below hb2) hf (f34.below hb2)
    · refine M23 _ _ _ (by rw [eval_put _ 34 38 _ (by decide), eval_put _ 23 38 _ (by decide), eval_put _ 20 38 _ (by decide), eval_put _ 17 38 _ (by decide), eval_put _ 16 38 _ (by decide)]; exact E38) (fun a39 c39 w2 hf hb2 => ⟨fun _ => HSB.out w2 (btr hb hb2), ?_⟩)
      rw [show (#[true, true, true, true, true, true, true, true, true, true, false, true, true, true, true, true, true, true, true, true, true, true, true, false, false, false, false] : Array Bool).setIfInBounds 23 true = #[true, true, true, true, true, true, true, true, true, true, false, true, true, true, true, true, true, true, true, true, true, true, true, true, false, false, false] from by kernel_rfl]
      exact st0_1_4_7_18_23_ g16 a20 c20 a23 c23 a34 c34 a39 c39 w2 (btr hb hb2) (f16.below hb2) (f20.below hb2) (f23.below hb2) (f34.below hb2) hf
  have st0_1_4_7_10_ : ∀ (g16 : Nat) (a20 : Option Addr) (c20 : Nat) (a23 : Option Addr) (c23 : Nat) (a26 : Option Addr) (c26 : Nat) (w1 : World), Below W.heap.size W w1 → Lit w1 g16 #[.int .u8 104, .int .u8 103] 5 W.heap.size → Bytes w1 (.slice a20 4 c20) (be4 p.gen) → Bytes w1 (.slice a23 4 c23) (be4 p.serial) → Bytes w1 (.slice a26 4 c26) (be4 p.number) → T 5 #[true, true, true, true, true, true, true, true, true, true, true, true, true, true, true, true, true, true, false, true, true, true, true, false, false, false, false] (((((A.put (some 16) (.slice (some ⟨g16, 0, none⟩) 2 2)).put (some 17) (.slice (some ⟨g16, 0, none⟩) 2 2)).put (some 20) (.slice a20 4 c20)).put (some 23) (.slice a23 4 c23)).put (some 26) (.slice a26 4 c26)) w1 := by
    intro g16 a20 c20 a23 c23 a26 c26 w1 hb f16 f20 f23 f26
    refine HT _ _ _ _ [18, 23] (by rw [HR]; kernel_rfl) (by decide) ?_
    refine List.forall_mem_cons.2 ⟨?_, List.forall_mem_cons.2 ⟨?_, fun _ h => by cases h⟩⟩
    · refine M18 _ _ _ (by rw [eval_put _ 26 28 _ (by decide), eval_put _ 23 28 _ (by decide), eval_put _ 20 28 _ (by decide), eval_put _ 17 28 _ (by decide), eval_put _ 16 28 _ (by decide)]; exact E28) (by rw [eval_put _ 26 31 _ (by decide), eval_put _ 23 31 _ (by decide), eval_put _ 20 31 _ (by decide), eval_put _ 17 31 _ (by decide), eval_put _ 16 31 _ (by decide)]; exact E31) (by rw [eval_put _ 26 33 _ (by decide), eval_put _ 23 33 _ (by decide), eval_put _ 20 33 _ (by decide), eval_put _ 17 33 _ (by decide), eval_put _ 16 33 _ (by decide)]; exact E33) (fun a34 c34 w2 hf hb2 => ⟨fun _ => HSB.out w2 (btr hb hb2), ?_⟩)
      rw [show (#[true, true, true, true, true, true, true, true, true, true, true, true, true, true, true, true, true, true, false, true, true, true, true, false, false, false, false] : Array Bool).setIfInBounds 18 true = #[true, true, true, true, true, true, true, true, true, true, true, true, true, true, true, true, true, true, true, true, true, true, true, false, false, false, false] from by kernel_rfl]
      exact st0_1_4_7_10_18_ g16 a20 c20 a23 c23 a26 c26 a34 c34 w2 (btr hb hb2) (f16.below hb2) (f20.below hb2) (f23.below hb2) (f26.below hb2) hf
    · refine M23 _ _ _ (by rw [eval_put _ 26 38 _ (by decide), eval_put _ 23 38 _ (by decide), eval_put _ 20 38 _ (by decide), eval_put _ 17 38 _ (by decide), eval_put _ 16 38 _ (by decide)]; exact E38) (fun a39 c39 w2 hf hb2 => ⟨fun _ => HSB.out w2 (btr hb hb2), ?_⟩)
      rw [show (#[true, true, true, true, true, true, true, true, true, true, true, true, true, true, true, true, true, true, false, true, true, true, true, false, false, false, false] : Array Bool).setIfInBounds 23 true = #[true, true, true, true, true, true, true, true, true, true, true, true, true, true, true, true, true, true, false, true, true, true, true, true, false, false, false] from by kernel_rfl]
      exact st0_1_4_7_10_23_ g16 a20 c20 a23 c23 a26 c26 a39 c39 w2 (btr hb hb2) (f16.below hb2) (f20.below hb2) (f23.below hb2) (f26.below hb2) hf
  have st0_4_7_18_23_ : ∀ (g16 : Nat) (a20 : Option Addr) (c20 : Nat) (a23 : Option Addr) (c23 : Nat) (a34 : Option Addr) (c34 : Nat) (a39 : Option Addr) (c39 : Nat) (w1 : World), Below W.heap.size W w1 → Lit w1 g16 #[.int .u8 104, .int .u8 103] 5 W.heap.size → Bytes w1 (.slice a20 4 c20) (be4 p.gen) → Bytes w1 (.slice a23 4 c23) (be4 p.serial) → Bytes w1 (.slice a34 3 c34) (UInt8.ofNat p.kind :: be2 p.data.length) → Bytes w1 (.slice a39 rm c39) (List.replicate rm 0) → T 5 #[true, false, true, true, true, true, true, true, true, true, false, true, true, true, true, true, true, true, true, true, true, true, true, true, false, false, false] (((((A.put (some 16) (.slice (some ⟨g16, 0, none⟩) 2 2)).put (some 20) (.slice a20 4 c20)).put (some 23) (.slice a23 4 c23)).put (some 34) (.slice a34 3 c34)).put (some 39) (.slice a39 rm c39)) w1 := by
    intro g16 a20 c20 a23 c23 a34 c34 a39 c39 w1 hb f16 f20 f23 f34 f39
    refine HT _ _ _ _ [1, 10] (by rw [HR]; kernel_rfl) (by decide) ?_
    refine List.forall_mem_cons.2 ⟨?_, List.forall_mem_cons.2 ⟨?_, fun _ h => by cases h⟩⟩
    · refine M1 _ _ _ (by rw [eval_put _ 39 16 _ (by decide), eval_put _ 34 16 _ (by decide), eval_put _ 23 16 _ (by decide), eval_put _ 20 16 _ (by decide)]; exact ep _) f16 (fun w2 hb2 hk2 hl2 => ⟨fun _ => HSB.out w2 (hb.trans hb2), ?_⟩)
      rw [show (#[true, false, true, true, true, true, true, true, true, true, false, true, true, true, true, true, true, true, true, true, true, true, true, true, false, false, false] : Array Bool).setIfInBounds 1 true = #[true, true, true, true, true, true, true, true, true, true, false, true, true, true, true, true, true, true, true, true, true, true, true, true, false, false, false] from by kernel_rfl, put_swap _ 39 17 _ _ (by decide), put_swap _ 34 17 _ _ (by decide), put_swap _ 23 17 _ _ (by decide), put_swap _ 20 17 _ _ (by decide)]
      exact st0_1_4_7_18_23_ g16 a20 c20 a23 c23 a34 c34 a39 c39 w2 (hb.trans hb2) hl2 (f20.cells hk2) (f23.cells hk2) (f34.cells hk2) (f39.cells hk2)
    · refine M10 _ _ _ (by rw [eval_put _ 39 25 _ (by decide), eval_put _ 34 25 _ (by decide), eval_put _ 23 25 _ (by decide), eval_put _ 20 25 _ (by decide), eval_put _ 16 25 _ (by decide)]; exact E25) (fun a26 c26 w2 hf hb2 => ⟨fun _ => HSB.out w2 (btr hb hb2), ?_⟩)
      rw [show (#[true, false, true, true, true, true, true, true, true, true, false, true, true, true, true, true, true, true, true, true, true, true, true, true, false, false, false] : Array Bool).setIfInBounds 10 true = #[true, false, true, true, true, true, true, true, true, true, true, true, true, true, true, true, true, true, true, true, true, true, true, true, false, false, false] from by kernel_rfl, put_swap _ 39 26 _ _ (by decide), put_swap _ 34 26 _ _ (by decide)]
      exact st0_4_7_10_18_23_ g16 a20 c20 a23 c23 a26 c26 a34 c34 a39 c39 w2 (btr hb hb2) (f16.below hb2) (f20.below hb2) (f23.below hb2) hf (f34.below hb2) (f39.below hb2)
  have st0_1_4_7_23_ : ∀ (g16 : Nat) (a20 : Option Addr) (c20 : Nat) (a23 : Option Addr) (c23 : Nat) (a39 : Option Addr) (c39 : Nat) (w1 : World), Below W.heap.size W w1 → Lit w1 g16 #[.int .u8 104, .int .u8 103] 5 W.heap.size → Bytes w1 (.slice a20 4 c20) (be4 p.gen) → Bytes w1 (.slice a23 4 c23) (be4 p.serial) → Bytes w1 (.slice a39 rm c39) (List.replicate rm 0) → T 5 #[true, true, true, true, true, true, true, true, true, true, false, true, true, true, true, true, true, true, false, true, true, true, true, true, false, false, false] (((((A.put (some 16) (.slice (some ⟨g16, 0, none⟩) 2 2)).put (some 17) (.slice (some ⟨g16, 0, none⟩) 2 2)).put (some 20) (.slice a20 4 c20)).put (some 23) (.slice a23 4 c23)).put (some 39) (.slice a39 rm c39)) w1 := by
    intro g16 a20 c20 a23 c23 a39 c39 w1 hb f16 f20 f23 f39
    refine HT _ _ _ _ [10, 18] (by rw [HR]; kernel_rfl) (by decide) ?_
    refine List.forall_mem_cons.2 ⟨?_, List.forall_mem_cons.2 ⟨?_, fun _ h => by cases h⟩⟩
    · refine M10 _ _ _ (by rw [eval_put _ 39 25 _ (by decide), eval_put _ 23 25 _ (by decide), eval_put _ 20 25 _ (by decide), eval_put _ 17 25 _ (by decide), eval_put _ 16 25 _ (by decide)]; exact E25) (fun a26 c26 w2 hf hb2 => ⟨fun _ => HSB.out w2 (btr hb hb2), ?_⟩)
      rw [show (#[true, true, true, true, true, true, true, true, true, true, false, true, true, true, true, true, true, true, false, true, true, true, true, true, false, false, false] : Array Bool).setIfInBounds 10 true = #[true, true, true, true, true, true, true, true, true, true, true, true, true, true, true, true, true, true, false, true, true, true, true, true, false, false, false] from by kernel_rfl, put_swap _ 39 26 _ _ (by decide)]
      exact st0_1_4_7_10_23_ g16 a20 c20 a23 c23 a26 c26 a39 c39 w2 (btr hb hb2) (f16.below hb2) (f20.below hb2) (f23.below hb2) hf (f39.below hb2)
    · refine M18 _ _ _ (by rw [eval_put _ 39 28 _ (by decide), eval_put _ 23 28 _ (by decide), eval_put _ 20 28 _ (by decide), eval_put _ 17 28 _ (by decide), eval_put _ 16 28 _ (by decide)]; exact E28) (by rw [eval_put _ 39 31 _ (by decide), eval_put _ 23 31 _ (by decide), eval_put _ 20 31 _ (by decide), eval_put _ 17 31 _ (by decide), eval_put _ 16 31 _ (by decide)]; exact E31) (by rw [eval_put _ 39 33 _ (by decide), eval_put _ 23 33 _ (by decide), eval_put _ 20 33 _ (by decide), eval_put _ 17 33 _ (by decide), eval_put _ 16 33 _ (by decide)]; exact E33) (fun a34 c34 w2 hf hb2 => ⟨fun _ => HSB.out w2 (btr hb hb2), ?_⟩)
      rw [show (#[true, true, true, true, true, true, true, true, true, true, false, true, true, true, true, true, true, true, false, true, true, true, true, true, false, false, false] : Array Bool).setIfInBounds 18 true = #[true, true, true, true, true, true, true, true, true, true, false, true, true, true, true, true, true, true, true, true, true, true, true, true, false, false, false] from by kernel_rfl, put_swap _ 39 34 _ _ (by decide)]
      exact st0_1_4_7_18_23_ g16 a20 c20 a23 c23 a34 c34 a39 c39 w2 (btr hb hb2) (f16.below hb2) (f20.below hb2) (f23.below hb2) hf (f39.below hb2)
  have st4_7_10_18_23_ : ∀ (a20 : Option Addr) (c20 : Nat) (a23 : Option Addr) (c23 : Nat) (a26 : Option Addr) (c26 : Nat) (a34 : Option Addr) (c34 : Nat) (a39 : Option Addr) (c39 : Nat) (w1 : World), Below W.heap.size W w1 → Bytes w1 (.slice a20 4 c20) (be4 p.gen) → Bytes w1 (.slice a23 4 c23) (be4 p.serial) → Bytes w1 (.slice a26 4 c26) (be4 p.number) → Bytes w1 (.slice a34 3 c34) (UInt8.ofNat p.kind :: be2 p.data.length) → Bytes w1 (.slice a39 rm c39) (List.replicate rm 0) → T 5 #[false, false, true, true, true, true, true, true, true, true, true, true, true, true, true, true, true, true, true, true, true, true, true, true, false, false, false] (((((A.put (some 20) (.slice a20 4 c20)).put (some 23) (.slice a23 4 c23)).put (some 26) (.slice a26 4 c26)).put (some 34) (.slice a34 3 c34)).put (some 39) (.slice a39 rm c39)) w1 := by
    intro a20 c20 a23 c23 a26 c26 a34 c34 a39 c39 w1 hb f20 f23 f26 f34 f39
    refine HT _ _ _ _ [0] (by rw [HR]; kernel_rfl) (by decide) ?_
    refine List.forall_mem_cons.2 ⟨?_, fun _ h => by cases h⟩
    · refine M0 _ _ _ hb  (fun g16 w2 hf hb2 => ⟨fun _ => HSB.out w2 (btr hb hb2), ?_⟩)
      rw [show (#[false, false, true, true, true, true, true, true, true, true, true, true, true, true, true, true, true, true, true, true, true, true, true, true, false, false, false] : Array Bool).setIfInBounds 0 true = #[true, false, true, true, true, true, true, true, true, true, true, true, true, true, true, true, true, true, true, true, true, true, true, true, false, false, false] from by kernel_rfl, put_swap _ 39 16 _ _ (by decide), put_swap _ 34 16 _ _ (by decide), put_swap _ 26 16 _ _ (by decide), put_swap _ 23 16 _ _ (by decide), put_swap _ 20 16 _ _ (by decide)]
      exact st0_4_7_10_18_23_ g16 a20 c20 a23 c23 a26 c26 a34 c34 a39 c39 w2 (btr hb hb2) hf (f20.below hb2) (f23.below hb2) (f26.below hb2) (f34.below hb2) (f39.below hb2)
  have st0_4_7_10_23_ : ∀ (g16 : Nat) (a20 : Option Addr) (c20 : Nat) (a23 : Option Addr) (c23 : Nat) (a26 : Option Addr) (c26 : Nat) (a39 : Option Addr) (c39 : Nat) (w1 : World), Below W.heap.size W w1 → Lit w1 g16 #[.int .u8 104, .int .u8 103] 5 W.heap.size → Bytes w1 (.slice a20 4 c20) (be4 p.gen) → Bytes w1 (.slice a23 4 c23) (be4 p.serial) → Bytes w1 (.slice a26 4 c26) (be4 p.number) → Bytes w1 (.slice a39 rm c39) (List.replicate rm 0) → T 5 #[true, false, true, true, true, true, true, true, true, true, true, true, true, true, true, true, true, true, false, true, true, true, true, true, false, false, false] (((((A.put (some 16) (.slice (some ⟨g16, 0, none⟩) 2 2)).put (some 20) (.slice a20 4 c20)).put (some 23) (.slice a23 4 c23)).put (some 26) (.slice a26 4 c26)).put (some 39) (.slice a39 rm c39)) w1 := by
    intro g16 a20 c20 a23 c23 a26 c26 a39 c39 w1 hb f16 f20 f23 f26 f39
    refine HT _ _ _ _ [1, 18] (by rw [HR]; kernel_rfl) (by decide) ?_
    refine List.forall_mem_cons.2 ⟨?_, List.forall_mem_cons.2 ⟨?_, fun _ h => by cases h⟩⟩
    · refine M1 _ _ _ (by rw [eval_put _ 39 16 _ (by decide), eval_put _ 26 16 _ (by decide), eval_put _ 23 16 _ (by decide), eval_put _ 20 16 _ (by decide)]; exact ep _) f16 (fun w2 hb2 hk2 hl2 => ⟨fun _ => HSB.out w2 (hb.trans hb2), ?_⟩)
      rw [show (#[true, false, true, true, true, true, true, true, true, true, true, true, true, true, true, true, true, true, false, true, true, true, true, true, false, false, false] : Array Bool).setIfInBounds 1 true = #[true, true, true, true, true, true, true, true, true, true, true, true, true, true, true, true, true, true, false, true, true, true, true, true, false, false, false] from by kernel_rfl, put_swap _ 39 17 _ _ (by decide), put_swap _ 26 17 _ _ (by decide), put_swap _ 23 17 _ _ (by decide), put_swap _ 20 17 _ _ (by decide)]
      exact st0_1_4_7_10_23_ g16 a20 c20 a23 c23 a26 c26 a39 c39 w2 (hb.trans hb2) hl2 (f20.cells hk2) (f23.cells hk2) (f26.cells hk2) (f39.cells hk2)
    · refine M18 _ _ _ (by rw [eval_put _ 39 28 _ (by decide), eval_put _ 26 28 _ (by decide), eval_put _ 23 28 _ (by decide), eval_put _ 20 28 _ (by decide), eval_put _ 16 28 _ (by decide)]; exact E28) (by rw [eval_put _ 39 31 _ (by decide), eval_put _ 26 31 _ (by decide), eval_put _ 23 31 _ (by decide), eval_put _ 20 31 _ (by decide), eval_put _ 16 31 _ (by decide)]; exact E31) (by rw [eval_put _ 39 33 _ (by decide), eval_put _ 26 33 _ (by decide), eval_put _ 23 33 _ (by decide), eval_put _ 20 33 _ (by decide), eval_put _ 16 33 _ (by decide)]; exact E33) (fun a34 c34 w2 hf hb2 => ⟨fun _ => HSB.out w2 (btr hb hb2), ?_⟩)
      rw [show (#[true, false, true, true, true, true, true, true, true, true, true, true, true, true, true, true, true, true, false, true, true, true, true, true, false, false, false] : Array Bool).setIfInBounds 18 true = #[true, false, true, true, true, true, true, true, true, true, true, true, true, true, true, true, true, true, true, true, true, true, true, true, false, false, false] from by kernel_rfl, put_swap _ 39 34 _ _ (by decide)]
      exact st0_4_7_10_18_23_ g16 a20 c20 a23 c23 a26 c26 a34 c34 a39 c39 w2 (btr hb hb2) (f16.below hb2) (f20.below hb2) (f23.below hb2) (f26.below hb2) hf (f39.below hb2)
  have st0_4_7_18_ : ∀ (g16 : Nat) (a20 : Option Addr) (c20 : Nat) (a23 : Option Addr) (c23 : Nat) (a34 : Option Addr) (c34 : Nat) (w1 : World), Below W.heap.size W w1 → Lit w1 g16 #[.int .u8 104, .int .u8 103] 5 W.heap.size → Bytes w1 (.slice a20 4 c20) (be4 p.gen) → Bytes w1 (.slice a23 4 c23) (be4 p.serial) → Bytes w1 (.slice a34 3 c34) (UInt8.ofNat p.kind :: be2 p.data.length) → T 6 #[true, false, true, true, true, true, true, true, true, true, false, true, true, true, true, true, true, true, true, true, true, true, true, false, false, false, false] ((((A.put (some 16) (.slice (some ⟨g16, 0, none⟩) 2 2)).put (some 20) (.slice a20 4 c20)).put (some 23) (.slice a23 4 c23)).put (some 34) (.slice a34 3 c34)) w1 := by
    intro g16 a20 c20 a23 c23 a34 c34 w1 hb f16 f20 f23 f34
    refine HT _ _ _ _ [1, 10, 23] (by rw [HR]; kernel_rfl) (by decide) ?_
    refine List.forall_mem_cons.2 ⟨?_, List.forall_mem_cons.2 ⟨?_, List.forall_mem_cons.2 ⟨?_, fun _ h => by cases h⟩⟩⟩
    · refine M1 _ _ _ (by rw [eval_put _ 34 16 _ (by decide), eval_put _ 23 16 _ (by decide), eval_put _ 20 16 _ (by decide)]; exact ep _) f16 (fun w2 hb2 hk2 hl2 => ⟨fun _ => HSB.out w2 (hb.trans hb2), ?_⟩)
      rw [show (#[true, false, true, true, true, true, true, true, true, true, false, true, true, true, true, true, true, true, true, true, true, true, true, false, false, false, false] : Array Bool).setIfInBounds 1 true = #[true, true, true, true, true, true, true, true, true, true, false, true, true, true, true, true, true, true, true, true, true, true, true, false, false, false, false] from by kernel_rfl, put_swap _ 34 17 _ _ (by decide), put_swap _ 23 17 _ _ (by decide), put_swap _ 20 17 _ _ (by decide)]
      exact st0_1_4_7_18_ g16 a20 c20 a23 c23 a34 c34 w2 (hb.trans hb2) hl2 (f20.cells hk2) (f23.cells hk2) (f34.cells hk2)
    · refine M10 _ _ _ (by rw [eval_put _ 34 25 _ (by decide), eval_put _ 23 25 _ (by decide), eval_put _ 20 25 _ (by decide), eval_put _ 16 25 _ (by decide)]; exact E25) (fun a26 c26 w2 hf hb2 => ⟨fun _ => HSB.out w2 (btr hb hb2), ?_⟩)
      rw [show (#[true, false, true, true, true, true, true, true, true, true, false, true, true, true, true, true, true, true, true, true, true, true, true, false, false, false, false] : Array Bool).setIfInBounds 10 true = #[true, false, true, true, true, true, true, true, true, true, true, true, true, true, true, true, true, true, true, true, true, true, true, false, false, false, false] from by kernel_rfl, put_swap _ 34 26 _ _ (by decide)]
      exact st0_4_7_10_18_ g16 a20 c20 a23 c23 a26 c26 a34 c34 w2 (btr hb hb2) (f16.below hb2) (f20.below hb2) (f23.below hb2) hf (f34.below hb2)
    · refine M23 _ _ _ (by rw [eval_put _ 34 38 _ (by decide), eval_put _ 23 38 _ (by decide), eval_put _ 20 38 _ (by decide), eval_put _ 16 38 _ (by decide)]; exact E38) (fun a39 c39 w2 hf hb2 => ⟨fun _ => HSB.out w2 (btr hb hb2), ?_⟩)
      rw [show (#[true, false, true, true, true, true, true, true, true, true, false, true, true, true, true, true, true, true, true, true, true, true, true, false, false, false, false] : Array Bool).setIfInBounds 23 true = #[true, false, true, true, true, true, true, true, true, true, false, true, true, true, true, true, true, true, true, true, true, true, true, true, false, false, false] from by kernel_rfl]
      exact st0_4_7_18_23_ g16 a20 c20 a23 c23 a34 c34 a39 c39 w2 (btr hb hb2) (f16.below hb2) (f20.below hb2) (f23.below hb2) (f34.below hb2) hf
  have st0_1_4_7_ : ∀ (g16 : Nat) (a20 : Option Addr) (c20 : Nat) (a23 : Option Addr) (c23 : Nat) (w1 : World), Below W.heap.size W w1 → Lit w1 g16 #[.int .u8 104, .int .u8 103] 5 W.heap.size → Bytes w1 (.slice a20 4 c20) (be4 p.gen) → Bytes w1 (.slice a23 4 c23) (be4 p.serial) → T 6 #[true, true, true, true, true, true, true, true, true, true, false, true, true, true, true, true, true, true, false, true, true, true, true, false, false, false, false] ((((A.put (some 16) (.slice (some ⟨g16, 0, none⟩) 2 2)).put (some 17) (.slice (some ⟨g16, 0, none⟩) 2 2)).put (some 20) (.slice a20 4 c20)).put (some 23) (.slice a23 4 c23)) w1 := by
    intro g16 a20 c20 a23 c23 w1 hb f16 f20 f23
    refine HT _ _ _ _ [10, 18, 23] (by rw [HR]; kernel_rfl) (by decide) ?_
    refine List.forall_mem_cons.2 ⟨?_, List.forall_mem_cons.2 ⟨?_, List.forall_mem_cons.2 ⟨?_, fun _ h => by cases h⟩⟩⟩
    · refine M10 _ _ _ (by rw [eval_put _ 23 25 _ (by decide), eval_put _ 20 25 _ (by decide), eval_put _ 17 25 _ (by decide), eval_put _ 16 25 _ (by decide)]; exact E25) (fun a26 c26 w2 hf hb2 => ⟨fun _ => HSB.out w2 (btr hb hb2), ?_⟩)
      rw [show (#[true, true, true, true, true, true, true, true, true, true, false, true, true, true, true, true, true, true, false, true, true, true, true, false, false, false, false] : Array Bool).setIfInBounds 10 true = #[true, true, true, true, true, true, true, true, true, true, true, true, true, true, true, true, true, true, false, true, true, true, true, false, false, false, false] from by kernel_rfl]
      exact st0_1_4_7_10_ g16 a20 c20 a23 c23 a26 c26 w2 (btr hb hb2) (f16.below hb2) (f20.below hb2) (f23.below hb2) hf
    · refine M18 _ _ _ (by rw [eval_put _ 23 28 _ (by decide), eval_put _ 20 28 _ (by decide), eval_put _ 17 28 _ (by decide), eval_put _ 16 28 _ (by decide)]; exact E28) (by rw [eval_put _ 23 31 _ (by decide), eval_put _ 20 31 _ (by decide), eval_put _ 17 31 _ (by decide), eval_put _ 16 31 _ (by decide)]; exact E31) (by rw [eval_put _ 23 33 _ (by decide), eval_put _ 20 33 _ (by decide), eval_put _ 17 33 _ (by decide), eval_put _ 16 33 _ (by decide)]; exact E33) (fun a34 c34 w2 hf hb2 => ⟨fun _ => HSB.out w2 (btr hb hb2), ?_⟩)
      rw [show (#[true, true, true, true, true, true, true, true, true, true, false, true, true, true, true, true, true, true, false, true, true, true, true, false, false, false, false] : Array Bool).setIfInBounds 18 true = #[true, true, true, true, true, true, true, true, true, true, false, true, true, true, true, true, true, true, true, true, true, true, true, false, false, false, false] from by kernel_rfl]
      exact st0_1_4_7_18_ g16 a20 c20 a23 c23 a34 c34 w2 (btr hb hb2) (f16.below hb2) (f20.below hb2) (f23.below hb2) hf
    · refine M23 _ _ _ (by rw [eval_put _ 23 38 _ (by decide), eval_put _ 20 38 _ (by decide), eval_put _ 17 38 _ (by decide), eval_put _ 16 38 _ (by decide)]; exact E38) (fun a39 c39 w2 hf hb2 => ⟨fun _ => HSB.out w2 (btr hb hb2), ?_⟩)
      rw [show (#[true, true, true, true, true, true, true, true, true, true, false, true, true, true, true, true, true, true, false, true, true, true, true, false, false, false, false] : Array Bool).setIfInBounds 23 true = #[true, true, true, true, true, true, true, true, true, true, false, true, true, true, true, true, true, true, false, true, true, true, true, true, false, false, false] from by kernel_rfl]
      exact st0_1_4_7_23_ g16 a20 c20 a23 c23 a39 c39 w2 (btr hb hb2) (f16.below hb2) (f20.below hb2) (f23.below hb2) hf
  have st0_4_18_23_ : ∀ (g16 : Nat) (a20 : Option Addr) (c20 : Nat) (a34 : Option Addr) (c34 : Nat) (a39 : Option Addr) (c39 : Nat) (w1 : World), Below W.heap.size W w1 → Lit w1 g16 #[.int .u8 104, .int .u8 103] 5 W.heap.size → Bytes w1 (.slice a20 4 c20) (be4 p.gen) → Bytes w1 (.slice a34 3 c34) (UInt8.ofNat p.kind :: be2 p.data.length) → Bytes w1 (.slice a39 rm c39) (List.replicate rm 0) → T 6 #[true, false, true, true, true, true, true, false, true, true, false, true, true, true, true, true, true, true, true, true, true, true, true, true, false, false, false] ((((A.put (some 16) (.slice (some ⟨g16, 0, none⟩) 2 2)).put (some 20) (.slice a20 4 c20)).put (some 34) (.slice a34 3 c34)).put (some 39) (.slice a39 rm c39)) w1 := by
    intro g16 a20 c20 a34 c34 a39 c39 w1 hb f16 f20 f34 f39
    refine HT _ _ _ _ [1, 7] (by rw [HR]; kernel_rfl) (by decide) ?_
    refine List.forall_mem_cons.2 ⟨?_, List.forall_mem_cons.2 ⟨?_, fun _ h => by cases h⟩⟩
    · refine M1 _ _ _ (by rw [eval_put _ 39 16 _ (by decide), eval_put _ 34 16 _ (by decide), eval_put _ 20 16 _ (by decide)]; exact ep _) f16 (fun w2 hb2 hk2 hl2 => ⟨fun _ => HSB.out w2 (hb.trans hb2), ?_⟩)
      rw [show (#[true, false, true, true, true, true, true, false, true, true, false, true, true, true, true, true, true, true, true, true, true, true, true, true, false, false, false] : Array Bool).setIfInBounds 1 true = #[true, true, true, true, true, true, true, false, true, true, false, true, true, true, true, true, true, true, true, true, true, true, true, true, false, false, false] from by kernel_rfl, put_swap _ 39 17 _ _ (by decide), put_swap _ 34 17 _ _ (by decide), put_swap _ 20 17 _ _ (by decide)]
      exact st0_1_4_18_23_ g16 a20 c20 a34 c34 a39 c39 w2 (hb.trans hb2) hl2 (f20.cells hk2) (f34.cells hk2) (f39.cells hk2)
    · refine M7 _ _ _ (by rw [eval_put _ 39 22 _ (by decide), eval_put _ 34 22 _ (by decide), eval_put _ 20 22 _ (by decide), eval_put _ 16 22 _ (by decide)]; exact E22) (fun a23 c23 w2 hf hb2 => ⟨fun _ => HSB.out w2 (btr hb hb2), ?_⟩)
      rw [show (#[true, false, true, true, true, true, true, false, true, true, false, true, true, true, true, true, true, true, true, true, true, true, true, true, false, false, false] : Array Bool).setIfInBounds 7 true = #[true, false, true, true, true, true, true, true, true, true, false, true, true, true, true, true, true, true, true, true, true, true, true, true, false, false, false] from by kernel_rfl, put_swap _ 39 23 _ _ (by decide), put_swap _ 34 23 _ _ (by decide)]
      exact st0_4_7_18_23_ g16 a20 c20 a23 c23 a34 c34 a39 c39 w2 (btr hb hb2) (f16.below hb2) (f20.below hb2) hf (f34.below hb2) (f39.below hb2)
  have st0_1_4_23_ : ∀ (g16 : Nat) (a20 : Option Addr) (c20 : Nat) (a39 : Option Addr) (c39 : Nat) (w1 : World), Below W.heap.size W w1 → Lit w1 g16 #[.int .u8 104, .int .u8 103] 5 W.heap.size → Bytes w1 (.slice a20 4 c20) (be4 p.gen) → Bytes w1 (.slice a39 rm c39) (List.replicate rm 0) → T 6 #[true, true, true, true, true, true, true, false, true, true, false, true, true, true, true, true, true, true, false, true, true, true, true, true, false, false, false] ((((A.put (some 16) (.slice (some ⟨g16, 0, none⟩) 2 2)).put (some 17) (.slice (some ⟨g16, 0, none⟩) 2 2)).put (some 20) (.slice a20 4 c20)).put (some 39) (.slice a39 rm c39)) w1 := by
    intro g16 a20 c20 a39 c39 w1 hb f16 f20 f39
    refine HT _ _ _ _ [7, 18] (by rw [HR]; kernel_rfl) (by decide) ?_
    refine List.forall_mem_cons.2 ⟨?_, List.forall_mem_cons.2 ⟨?_, fun _ h => by cases h⟩⟩
    · refine M7 _ _ _ (by rw [eval_put _ 39 22 _ (by decide), eval_put _ 20 22 _ (by decide), eval_put _ 17 22 _ (by decide), eval_put _ 16 22 _ (by decide)]; exact E22) (fun a23 c23 w2 hf hb2 => ⟨fun _ => HSB.out w2 (btr hb hb2), ?_⟩)
      rw [show (#[true, true, true, true, true, true, true, false, true, true, false, true, true, true, true, true, true, true, false, true, true, true, true, true, false, false, false] : Array Bool).setIfInBounds 7 true = #[true, true, true, true, true, true, true, true, true, true, false, true, true, true, true, true, true, true, false, true, true, true, true, true, false, false, false] from by kernel_rfl, put_swap _ 39 23 _ _ (by decide)]
      exact st0_1_4_7_23_ g16 a20 c20 a23 c23 a39 c39 w2 (btr hb hb2) (f16.below hb2) (f20.below hb2) hf (f39.below hb2)
    · refine M18 _ _ _ (by rw [eval_put _ 39 28 _ (by decide), eval_put _ 20 28 _ (by decide), eval_put _ 17 28 _ (by decide), eval_put _ 16 28 _ (by decide)]; exact E28) (by rw [eval_put _ 39 31 _ (by decide), eval_put _ 20 31 _ (by decide), eval_put _ 17 31 _ (by decide), eval_put _ 16 31 _ (by decide)]; exact E31) (by rw [eval_put _ 39 33 _ (by decide), eval_put _ 20 33 _ (by decide), eval_put _ 17 33 _ (by decide), eval_put _ 16 33 _ (by decide)]; exact E33) (fun a34 c34 w2 hf hb2 => ⟨fun _ => HSB.out w2 (btr hb hb2), ?_⟩)
      rw [show (#[true, true, true, true, true, true, true, false, true, true, false, true, true, true, true, true, true, true, false, true, true, true, true, true, false, false, false] : Array Bool).setIfInBounds 18 true = #[true, true, true, true, true, true, true, false, true, true, false, true, true, true, true, true, true, true, true, true, true, true, true, true, false, false, false] from by kernel_rfl, put_swap _ 39 34 _ _ (by decide)]
      exact st0_1_4_18_23_ g16 a20 c20 a34 c34 a39 c39 w2 (btr hb hb2) (f16.below hb2) (f20.below hb2) hf (f39.below hb2)
  have st0_4_7_10_ : ∀ (g16 : Nat) (a20 : Option Addr) (c20 : Nat) (a23 : Option Addr) (c23 : Nat) (a26 : Option Addr) (c26 : Nat) (w1 : World), Below W.heap.size W w1 → Lit w1 g16 #[.int .u8 104, .int .u8 103] 5 W.heap.size → Bytes w1 (.slice a20 4 c20) (be4 p.gen) → Bytes w1 (.slice a23 4 c23) (be4 p.serial) → Bytes w1 (.slice a26 4 c26) (be4 p.number) → T 6 #[true, false, true, true, true, true, true, true, true, true, true, true, true, true, true, true, true, true, false, true, true, true, true, false, false, false, false] ((((A.put (some 16) (.slice (some ⟨g16, 0, none⟩) 2 2)).put (some 20) (.slice a20 4 c20)).put (some 23) (.slice a23 4 c23)).put (some 26) (.slice a26 4 c26)) w1 := by
    intro g16 a20 c20 a23 c23 a26 c26 w1 hb f16 f20 f23 f26
    refine HT _ _ _ _ [1, 18, 23] (by rw [HR]; kernel_rfl) (by decide) ?_
    refine List.forall_mem_cons.2 ⟨?_, List.forall_mem_cons.2 ⟨?_, List.forall_mem_cons.2 ⟨?_, fun _ h => by cases h⟩⟩⟩
    · refine M1 _ _ _ (by rw [eval_put _ 26 16 _ (by decide), eval_put _ 23 16 _ (by decide), eval_put _ 20 16 _ (by decide)]; exact ep _) f16 (fun w2 hb2 hk2 hl2 => ⟨fun _ => HSB.out w2 (hb.trans hb2), ?_⟩)
      rw [show (#[true, false, true, true, true, true, true, true, true, true, true, true, true, true, true, true, true, true, false, true, true, true, true, false, false, false, false] : Array Bool).setIfInBounds 1 true = #[true, true, true, true, true, true, true, true, true, true, true, true, true, true, true, true, true, true, false, true, true, true, true, false, false, false, false] from by kernel_rfl, put_swap _ 26 17 _ _ (by decide), put_swap _ 23 17 _ _ (by decide), put_swap _ 20 17 _ _ (by decide)]
      exact st0_1_4_7_10_ g16 a20 c20 a23 c23 a26 c26 w2 (hb.trans hb2) hl2 (f20.cells hk2) (f23.cells hk2) (f26.cells hk2)
    · refine M18 _ _ _ (by rw [eval_put _ 26 28 _ (by decide), eval_put _ 23 28 _ (by decide), eval_put _ 20 28 _ (by decide), eval_put _ 16 28 _ (by decide)]; exact E28) (by rw [eval_put _ 26 31 _ (by decide), eval_put _ 23 31 _ (by decide), eval_put _ 20 31 _ (by decide), eval_put _ 16 31 _ (by decide)]; exact E31) (by rw [eval_put _ 26 33 _ (by decide), eval_put _ 23 33 _ (by decide), eval_put _ 20 33 _ (by decide), eval_put _ 16 33 _ (by decide)]; exact E33) (fun a34 c34 w2 hf hb2 => ⟨fun _ => HSB.out w2 (btr hb hb2), ?_⟩)
      rw [show (#[true, false, true, true, true, true, true, true, true, true, true, true, true, true, true, true, true, true, false, true, true, true, true, false, false, false, false] : Array Bool).setIfInBounds 18 true = #[true, false, true, true, true, true, true, true, true, true, true, true, true, true, true, true, true, true, true, true, true, true, true, false, false, false, false] from by kernel_rfl]
      exact st0_4_7_10_18_ g16 a20 c20 a23 c23 a26 c26 a34 c34 w2 (btr hb hb2) (f16.below hb2) (f20.below hb2) (f23.below hb2) (f26.below hb2) hf
    · refine M23 _ _ _ (by rw [eval_put _ 26 38 _ (by decide), eval_put _ 23 38 _ (by decide), eval_put _ 20 38 _ (by decide), eval_put _ 16 38 _ (by decide)]; exact E38) (fun a39 c39 w2 hf hb2 => ⟨fun _ => HSB.out w2 (btr hb hb2), ?_⟩)
      rw [show (#[true, false, true, true, true, true, true, true, true, true, true, true, true, true, true, true, true, true, false, true, true, true, true, false, false, false, false] : Array Bool).setIfInBounds 23 true = #[true, false, true, true, true, true, true, true, true, true, true, true, true, true, true, true, true, true, false, true, true, true, true, true, false, false, false] from by kernel_rfl]
      exact st0_4_7_10_23_ g16 a20 c20 a23 c23 a26 c26 a39 c39 w2 (btr hb hb2) (f16.below hb2) (f20.below hb2) (f23.below hb2) (f26.below hb2) hf
  have st4_7_18_23_ : ∀ (a20 : Option Addr) (c20 : Nat) (a23 : Option Addr) (c23 : Nat) (a34 : Option Addr) (c34 : Nat) (a39 : Option Addr) (c39 : Nat) (w1 : World), Below W.heap.size W w1 → Bytes w1 (.slice a20 4 c20) (be4 p.gen) → Bytes w1 (.slice a23 4 c23) (be4 p.serial) → Bytes w1 (.slice a34 3 c34) (UInt8.ofNat p.kind :: be2 p.data.length) → Bytes w1 (.slice a39 rm c39) (List.replicate rm 0) → T 6 #[false, false, true, true, true, true, true, true, true, true, false, true, true, true, true, true, true, true, true, true, true, true, true, true, false, false, false] ((((A.put (some 20) (.slice a20 4 c20)).put (some 23) (.slice a23 4 c23)).put (some 34) (.slice a34 3 c34)).put (some 39) (.slice a39 rm c39)) w1 := by
    intro a20 c20 a23 c23 a34 c34 a39 c39 w1 hb f20 f23 f34 f39
    refine HT _ _ _ _ [0, 10] (by rw [HR]; kernel_rfl) (by decide) ?_
    refine List.forall_mem_cons.2 ⟨?_, List.forall_mem_cons.2 ⟨?_, fun _ h => by cases h⟩⟩
    · refine M0 _ _ _ hb  (fun g16 w2 hf hb2 => ⟨fun _ => HSB.out w2 (btr hb hb2), ?_⟩)
      rw [show (#[false, false, true, true, true, true, true, true, true, true, false, true, true, true, true, true, true, true, true, true, true, true, true, true, false, false, false] : Array Bool).setIfInBounds 0 true = #[true, false, true, true, true, true, true, true, true, true, false, true, true, true, true, true, true, true, true, true, true, true, true, true, false, false, false] from by kernel_rfl, put_swap _ 39 16 _ _ (by decide), put_swap _ 34 16 _ _ (by decide), put_swap _ 23 16 _ _ (by decide), put_swap _ 20 16 _ _ (by decide)]
      exact st0_4_7_18_23_ g16 a20 c20 a23 c23 a34 c34 a39 c39 w2 (btr hb hb2) hf (f20.below hb2) (f23.below hb2) (f34.below hb2) (f39.below hb2)
    · refine M10 _ _ _ (by rw [eval_put _ 39 25 _ (by decide), eval_put _ 34 25 _ (by decide), eval_put _ 23 25 _ (by decide), eval_put _ 20 25 _ (by decide)]; exact E25) (fun a26 c26 w2 hf hb2 => ⟨fun _ => HSB.out w2 (btr hb hb2), ?_⟩)
      rw [show (#[false, false, true, true, true, true, true, true, true, true, false, true, true, true, true, true, true, true, true, true, true, true, true, true, false, false, false] : Array Bool).setIfInBounds 10 true = #[false, false, true, true, true, true, true, true, true, true, true, true, true, true, true, true, true, true, true, true, true, true, true, true, false, false, false] from by kernel_rfl, put_swap _ 39 26 _ _ (by decide), put_swap _ 34 26 _ _ (by decide)]
      exact st4_7_10_18_23_ a20 c20 a23 c23 a26 c26 a34 c34 a39 c39 w2 (btr hb hb2) (f20.below hb2) (f23.below hb2) hf (f34.below hb2) (f39.below hb2)
  have st0_1_18_23_ : ∀ (g16 : Nat) (a34 : Option Addr) (c34 : Nat) (a39 : Option Addr) (c39 : Nat) (w1 : World), Below W.heap.size W w1 → Lit w1 g16 #[.int .u8 104, .int .u8 103] 5 W.heap.size → Bytes w1 (.slice a34 3 c34) (UInt8.ofNat p.kind :: be2 p.data.length) → Bytes w1 (.slice a39 rm c39) (List.replicate rm 0) → T 6 #[true, true, true, true, false, true, true, false, true, true, false, true, true, true, true, true, true, true, true, true, true, true, true, true, false, false, false] ((((A.put (some 16) (.slice (some ⟨g16, 0, none⟩) 2 2)).put (some 17) (.slice (some ⟨g16, 0, none⟩) 2 2)).put (some 34) (.slice a34 3 c34)).put (some 39) (.slice a39 rm c39)) w1 := by
    intro g16 a34 c34 a39 c39 w1 hb f16 f34 f39
    refine HT _ _ _ _ [4] (by rw [HR]; kernel_rfl) (by decide) ?_
    refine List.forall_mem_cons.2 ⟨?_, fun _ h => by cases h⟩
    · refine M4 _ _ _ (by rw [eval_put _ 39 19 _ (by decide), eval_put _ 34 19 _ (by decide), eval_put _ 17 19 _ (by decide), eval_put _ 16 19 _ (by decide)]; exact E19) (fun a20 c20 w2 hf hb2 => ⟨fun _ => HSB.out w2 (btr hb hb2), ?_⟩)
      rw [show (#[true, true, true, true, false, true, true, false, true, true, false, true, true, true, true, true, true, true, true, true, true, true, true, true, false, false, false] : Array Bool).setIfInBounds 4 true = #[true, true, true, true, true, true, true, false, true, true, false, true, true, true, true, true, true, true, true, true, true, true, true, true, false, false, false] from by kernel_rfl, put_swap _ 39 20 _ _ (by decide), put_swap _ 34 20 _ _ (by decide)]
      exact st0_1_4_18_23_ g16 a20 c20 a34 c34 a39 c39 w2 (btr hb hb2) (f16.below hb2) hf (f34.below hb2) (f39.below hb2)
  have st4_7_10_18_ : ∀ (a20 : Option Addr) (c20 : Nat) (a23 : Option Addr) (c23 : Nat) (a26 : Option Addr) (c26 : Nat) (a34 : Option Addr) (c34 : Nat) (w1 : World), Below W.heap.size W w1 → Bytes w1 (.slice a20 4 c20) (be4 p.gen) → Bytes w1 (.slice a23 4 c23) (be4 p.serial) → Bytes w1 (.slice a26 4 c26) (be4 p.number) → Bytes w1 (.slice a34 3 c34) (UInt8.ofNat p.kind :: be2 p.data.length) → T 6 #[false, false, true, true, true, true, true, true, true, true, true, true, true, true, true, true, true, true, true, true, true, true, true, false, false, false, false] ((((A.put (some 20) (.slice a20 4 c20)).put (some 23) (.slice a23 4 c23)).put (some 26) (.slice a26 4 c26)).put (some 34) (.slice a34 3 c34)) w1 := by
    intro a20 c20 a23 c23 a26 c26 a34 c34 w1 hb f20 f23 f26 f34
    refine HT _ _ _ _ [0, 23] (by rw [HR]; kernel_rfl) (by decide) ?_
    refine List.forall_mem_cons.2 ⟨?_, List.forall_mem_cons.2 ⟨?_, fun _ h => by cases h⟩⟩
    · refine M0 _ _ _ hb  (fun g16 w2 hf hb2 => ⟨fun _ => HSB.out w2 (btr hb hb2), ?_⟩)
      rw [show (#[false, false, true, true, true, true, true, true, true, true, true, true, true, true, true, true, true, true, true, true, true, true, true, false, false, false, false] : Array Bool).setIfInBounds 0 true = #[true, false, true, true, true, true, true, true, true, true, true, true, true, true, true, true, true, true, true, true, true, true, true, false, false, false, false] from by kernel_rfl, put_swap _ 34 16 _ _ (by decide), put_swap _ 26 16 _ _ (by decide), put_swap _ 23 16 _ _ (by decide), put_swap _ 20 16 _ _ (by decide)]
      exact st0_4_7_10_18_ g16 a20 c20 a23 c23 a26 c26 a34 c34 w2 (btr hb hb2) hf (f20.below hb2) (f23.below hb2) (f26.below hb2) (f34.below hb2)
    · refine M23 _ _ _ (by rw [eval_put _ 34 38 _ (by decide), eval_put _ 26 38 _ (by decide), eval_put _ 23 38 _ (by decide), eval_put _ 20 38 _ (by decide)]; exact E38) (fun a39 c39 w2 hf hb2 => ⟨fun _ => HSB.out w2 (btr hb hb2), ?_⟩)
      rw [show (#[false, false, true, true, true, true, true, true, true, true, true, true, true, true, true, true, true, true, true, true, true, true, true, false, false, false, false] : Array Bool).setIfInBounds 23 true = #[false, false, true, true, true, true, true, true, true, true, true, true, true, true, true, true, true, true, true, true, true, true, true, true, false, false, false] from by kernel_rfl]
      exact st4_7_10_18_23_ a20 c20 a23 c23 a26 c26 a34 c34 a39 c39 w2 (btr hb hb2) (f20.below hb2) (f23.below hb2) (f26.below hb2) (f34.below hb2) hf
  have st0_4_7_23_ : ∀ (g16 : Nat) (a20 : Option Addr) (c20 : Nat) (a23 : Option Addr) (c23 : Nat) (a39 : Option Addr) (c39 : Nat) (w1 : World), Below W.heap.size W w1 → Lit w1 g16 #[.int .u8 104, .int .u8 103] 5 W.heap.size → Bytes w1 (.slice a20 4 c20) (be4 p.gen) → Bytes w1 (.slice a23 4 c23) (be4 p.serial) → Bytes w1 (.slice a39 rm c39) (List.replicate rm 0) → T 6 #[true, false, true, true, true, true, true, true, true, true, false, true, true, true, true, true, true, true, false, true, true, true, true, true, false, false, false] ((((A.put (some 16) (.slice (some ⟨g16, 0, none⟩) 2 2)).put (some 20) (.slice a20 4 c20)).put (some 23) (.slice a23 4 c23)).put (some 39) (.slice a39 rm c39)) w1 := by
    intro g16 a20 c20 a23 c23 a39 c39 w1 hb f16 f20 f23 f39
    refine HT _ _ _ _ [1, 10, 18] (by rw [HR]; kernel_rfl) (by decide) ?_
    refine List.forall_mem_cons.2 ⟨?_, List.forall_mem_cons.2 ⟨?_, List.forall_mem_cons.2 ⟨?_, fun _ h => by cases h⟩⟩⟩
    · refine M1 _ _ _ (by rw [eval_put _ 39 16 _ (by decide), eval_put _ 23 16 _ (by decide), eval_put _ 20 16 _ (by decide)]; exact ep _) f16 (fun w2 hb2 hk2 hl2 => ⟨fun _ => HSB.out w2 (hb.trans hb2), ?_⟩)
      rw [show (#[true, false, true, true, true, true, true, true, true, true, false, true, true, true, true, true, true, true, false, true, true, true, true, true, false, false, false] : Array Bool).setIfInBounds 1 true = #[true, true, true, true, true, true, true, true, true, true, false, true, true, true, true, true, true, true, false, true, true, true, true, true, false, false, false] from by kernel_rfl, put_swap _ 39 17 _ _ (by decide), put_swap _ 23 17 _ _ (by decide), put_swap _ 20 17 _ _ (by decide)]
      exact st0_1_4_7_23_ g16 a20 c20 a23 c23 a39 c39 w2 (hb.trans hb2) hl2 (f20.cells hk2) (f23.cells hk2) (f39.cells hk2)
    · refine M10 _ _ _ (by rw [eval_put _ 39 25 _ (by decide), eval_put _ 23 25 _ (by decide), eval_put _ 20 25 _ (by decide), eval_put _ 16 25 _ (by decide)]; exact E25) (fun a26 c26 w2 hf hb2 => ⟨fun _ => HSB.out w2 (btr hb hb2), ?_⟩)
      rw [show (#[true, false, true, true, true, true, true, true, true, true, false, true, true, true, true, true, true, true, false, true, true, true, true, true, false, false, false] : Array Bool).setIfInBounds 10 true = #[true, false, true, true, true, true, true, true, true, true, true, true, true, true, true, true, true, true, false, true, true, true, true, true, false, false, false] from by kernel_rfl, put_swap _ 39 26 _ _ (by decide)]
      exact st0_4_7_10_23_ g16 a20 c20 a23 c23 a26 c26 a39 c39 w2 (btr hb hb2) (f16.below hb2) (f20.below hb2) (f23.below hb2) hf (f39.below hb2)
    · refine M18 _ _ _ (by rw [eval_put _ 39 28 _ (by decide), eval_put _ 23 28 _ (by decide), eval_put _ 20 28 _ (by decide), eval_put _ 16 28 _ (by decide)]; exact E28) (by rw [eval_put _ 39 31 _ (by decide), eval_put _ 23 31 _ (by decide), eval_put _ 20 31 _ (by decide), eval_put _ 16 31 _ (by decide)]; exact E31) (by rw [eval_put _ 39 33 _ (by decide), eval_put _ 23 33 _ (by decide), eval_put _ 20 33 _ (by decide), eval_put _ 16 33 _ (by decide)]; exact E33) (fun a34 c34 w2 hf hb2 => ⟨fun _ => HSB.out w2 (btr hb hb2), ?_⟩)
      rw [show (#[true, false, true, true, true, true, true, true, true, true, false, true, true, true, true, true, true, true, false, true, true, true, true, true, false, false, false] : Array Bool).setIfInBounds 18 true = #[true, false, true, true, true, true, true, true, true, true, false, true, true, true, true, true, true, true, true, true, true, true, true, true, false, false, false] from by kernel_rfl, put_swap _ 39 34 _ _ (by decide)]
      exact st0_4_7_18_23_ g16 a20 c20 a23 c23 a34 c34 a39 c39 w2 (btr hb hb2) (f16.below hb2) (f20.below hb2) (f23.below hb2) hf (f39.below hb2)
  have st0_1_4_18_ : ∀ (g16 : Nat) (a20 : Option Addr) (c20 : Nat) (a34 : Option Addr) (c34 : Nat) (w1 : World), Below W.heap.size W w1 → Lit w1 g16 #[.int .u8 104, .int .u8 103] 5 W.heap.size → Bytes w1 (.slice a20 4 c20) (be4 p.gen) → Bytes w1 (.slice a34 3 c34) (UInt8.ofNat p.kind :: be2 p.data.length) → T 6 #[true, true, true, true, true, true, true, false, true, true, false, true, true, true, true, true, true, true, true, true, true, true, true, false, false, false, false] ((((A.put (some 16) (.slice (some ⟨g16, 0, none⟩) 2 2)).put (some 17) (.slice (some ⟨g16, 0, none⟩) 2 2)).put (some 20) (.slice a20 4 c20)).put (some 34) (.slice a34 3 c34)) w1 := by
    intro g16 a20 c20 a34 c34 w1 hb f16 f20 f34
    refine HT _ _ _ _ [7, 23] (by rw [HR]; kernel_rfl) (by decide) ?_
    refine List.forall_mem_cons.2 ⟨?_, List.forall_mem_cons.2 ⟨?_, fun _ h => by cases h⟩⟩
    · refine M7 _ _ _ (by rw [eval_put _ 34 22 _ (by decide), eval_put _ 20 22 _ (by decide), eval_put _ 17 22 _ (by decide), eval_put _ 16 22 _ (by decide)]; exact E22) (fun a23 c23 w2 hf hb2 => ⟨fun _ => HSB.out w2 (btr hb hb2), ?_⟩)
      rw [show (#[true, true, true, true, true, true, true, false, true, true, false, true, true, true, true, true, true, true, true, true, true, true, true, false, false, false, false] : Array Bool).setIfInBounds 7 true = #[true, true, true, true, true, true, true, true, true, true, false, true, true, true, true, true, true, true, true, true, true, true, true, false, false, false, false] from by kernel_rfl, put_swap _ 34 23 _ _ (by decide)]
      exact st0_1_4_7_18_ g16 a20 c20 a23 c23 a34 c34 w2 (btr hb hb2) (f16.below hb2) (f20.below hb2) hf (f34.below hb2)
    · refine M23 _ _ _ (by rw [eval_put _ 34 38 _ (by decide), eval_put _ 20 38 _ (by decide), eval_put _ 17 38 _ (by decide), eval_put _ 16 38 _ (by decide)]; exact E38) (fun a39 c39 w2 hf hb2 => ⟨fun _ => HSB.out w2 (btr hb hb2), ?_⟩)
      rw [show (#[true, true, true, true, true, true, true, false, true, true, false, true, true, true, true, true, true, true, true, true, true, true, true, false, false, false, false] : Array Bool).setIfInBounds 23 true = #[true, true, true, true, true, true, true, false, true, true, false, true, true, true, true, true, true, true, true, true, true, true, true, true, false, false, false] from by kernel_rfl]
      exact st0_1_4_18_23_ g16 a20 c20 a34 c34 a39 c39 w2 (btr hb hb2) (f16.below hb2) (f20.below hb2) (f34.below hb2) hf
  have st4_7_10_23_ : ∀ (a20 : Option Addr) (c20 : Nat) (a23 : Option Addr) (c23 : Nat) (a26 : Option Addr) (c26 : Nat) (a39 : Option Addr) (c39 : Nat) (w1 : World), Below W.heap.size W w1 → Bytes w1 (.slice a20 4 c20) (be4 p.gen) → Bytes w1 (.slice a23 4 c23) (be4 p.serial) → Bytes w1 (.slice a26 4 c26) (be4 p.number) → Bytes w1 (.slice a39 rm c39) (List.replicate rm 0) → T 6 #[false, false, true, true, true, true, true, true, true, true, true, true, true, true, true, true, true, true, false, true, true, true, true, true, false, false, false] ((((A.put (some 20) (.slice a20 4 c20)).put (some 23) (.slice a23 4 c23)).put (some 26) (.slice a26 4 c26)).put (some 39) (.slice a39 rm c39)) w1 := by
    intro a20 c20 a23 c23 a26 c26 a39 c39 w1 hb f20 f23 f26 f39
    refine HT _ _ _ _ [0, 18] (by rw [HR]; kernel_rfl) (by decide) ?_
    refine List.forall_mem_cons.2 ⟨?_, List.forall_mem_cons.2 ⟨?_, fun _ h => by cases h⟩⟩
    · refine M0 _ _ _ hb  (fun g16 w2 hf hb2 => ⟨fun _ => HSB.out w2 (btr hb hb2), ?_⟩)
      rw [show (#[false, false, true, true, true, true, true, true, true, true, true, true, true, true, true, true, true, true, false, true, true, true, true, true, false, false, false] : Array Bool).setIfInBounds 0 true = #[true, false, true, true, true, true, true, true, true, true, true, true, true, true, true, true, true, true, false, true, true, true, true, true, false, false, false] from by kernel_rfl, put_swap _ 39 16 _ _ (by decide), put_swap _ 26 16 _ _ (by decide), put_swap _ 23 16 _ _ (by decide), put_swap _ 20 16 _ _ (by decide)]
      exact st0_4_7_10_23_ g16 a20 c20 a23 c23 a26 c26 a39 c39 w2 (btr hb hb2) hf (f20.below hb2) (f23.below hb2) (f26.below hb2) (f39.below hb2)
    · refine M18 _ _ _ (by rw [eval_put _ 39 28 _ (by decide), eval_put _ 26 28 _ (by decide), eval_put _ 23 28 _ (by decide), eval_put _ 20 28 _ (by decide)]; exact E28) (by rw [eval_put _ 39 31 _ (by decide), eval_put _ 26 31 _ (by decide), eval_put _ 23 31 _ (by decide), eval_put _ 20 31 _ (by decide)]; exact E31) (by rw [eval_put _ 39 33 _ (by decide), eval_put _ 26 33 _ (by decide), eval_put _ 23 33 _ (by decide), eval_put _ 20 33 _ (by decide)]; exact E33) (fun a34 c34 w2 hf hb2 => ⟨fun _ => HSB.out w2 (btr hb hb2), ?_⟩)
      rw [show (#[false, false, true, true, true, true, true, true, true, true, true, true, true, true, true, true, true, true, false, true, true, true, true, true, false, false, false] : Array Bool).setIfInBounds 18 true = #[false, false, true, true, true, true, true, true, true, true, true, true, true, true, true, true, true, true, true, true, true, true, true, true, false, false, false] from by kernel_rfl, put_swap _ 39 34 _ _ (by decide)]
      exact st4_7_10_18_23_ a20 c20 a23 c23 a26 c26 a34 c34 a39 c39 w2 (btr hb hb2) (f20.below hb2) (f23.below hb2) (f26.below hb2) hf (f39.below hb2)
  have st0_18_23_ : ∀ (g16 : Nat) (a34 : Option Addr) (c34 : Nat) (a39 : Option Addr) (c39 : Nat) (w1 : World), Below W.heap.size W w1 → Lit w1 g16 #[.int .u8 104, .int .u8 103] 5 W.heap.size → Bytes w1 (.slice a34 3 c34) (UInt8.ofNat p.kind :: be2 p.data.length) → Bytes w1 (.slice a39 rm c39) (List.replicate rm 0) → T 7 #[true, false, true, true, false, true, true, false, true, true, false, true, true, true, true, true, true, true, true, true, true, true, true, true, false, false, false] (((A.put (some 16) (.slice (some ⟨g16, 0, none⟩) 2 2)).put (some 34) (.slice a34 3 c34)).put (some 39) (.slice a39 rm c39)) w1 := by
    intro g16 a34 c34 a39 c39 w1 hb f16 f34 f39
    refine HT _ _ _ _ [1, 4] (by rw [HR]; kernel_rfl) (by decide) ?_
    refine List.forall_mem_cons.2 ⟨?_, List.forall_mem_cons.2 ⟨?_, fun _ h => by cases h⟩⟩
    · refine M1 _ _ _ (by rw [eval_put _ 39 16 _ (by decide), eval_put _ 34 16 _ (by decide)]; exact ep _) f16 (fun w2 hb2 hk2 hl2 => ⟨fun _ => HSB.out w2 (hb.trans hb2), ?_⟩)
      rw [show (#[true, false, true, true, false, true, true, false, true, true, false, true, true, true, true, true, true, true, true, true, true, true, true, true, false, false, false] : Array Bool).setIfInBounds 1 true = #[true, true, true, true, false, true, true, false, true, true, false, true, true, true, true, true, true, true, true, true, true, true, true, true, false, false, false] from by kernel_rfl, put_swap _ 39 17 _ _ (by decide), put_swap _ 34 17 _ _ (by decide)]
      exact st0_1_18_23_ g16 a34 c34 a39 c39 w2 (hb.trans hb2) hl2 (f34.cells hk2) (f39.cells hk2)
    · refine M4 _ _ _ (by rw [eval_put _ 39 19 _ (by decide), eval_put _ 34 19 _ (by decide), eval_put _ 16 19 _ (by decide)]; exact E19) (fun a20 c20 w2 hf hb2 => ⟨fun _ => HSB.out w2 (btr hb hb2), ?_⟩)
      rw [show (#[true, false, true, true, false, true, true, false, true, true, false, true, true, true, true, true, true, true, true, true, true, true, true, true, false, false, false] : Array Bool).setIfInBounds 4 true = #[true, false, true, true, true, true, true, false, true, true, false, true, true, true, true, true, true, true, true, true, true, true, true, true, false, false, false] from by kernel_rfl, put_swap _ 39 20 _ _ (by decide), put_swap _ 34 20 _ _ (by decide)]
      exact st0_4_18_23_ g16 a20 c20 a34 c34 a39 c39 w2 (btr hb hb2) (f16.below hb2) hf (f34.below hb2) (f39.below hb2)
  have st0_1_23_ : ∀ (g16 : Nat) (a39 : Option Addr) (c39 : Nat) (w1 : World), Below W.heap.size W w1 → Lit w1 g16 #[.int .u8 104, .int .u8 103] 5 W.heap.size → Bytes w1 (.slice a39 rm c39) (List.replicate rm 0) → T 7 #[true, true, true, true, false, true, true, false, true, true, false, true, true, true, true, true, true, true, false, true, true, true, true, true, false, false, false] (((A.put (some 16) (.slice (some ⟨g16, 0, none⟩) 2 2)).put (some 17) (.slice (some ⟨g16, 0, none⟩) 2 2)).put (some 39) (.slice a39 rm c39)) w1 := by
    intro g16 a39 c39 w1 hb f16 f39
    refine HT _ _ _ _ [4, 18] (by rw [HR]; kernel_rfl) (by decide) ?_
    refine List.forall_mem_cons.2 ⟨?_, List.forall_mem_cons.2 ⟨?_, fun _ h => by cases h⟩⟩
    · refine M4 _ _ _ (by rw [eval_put _ 39 19 _ (by decide), eval_put _ 17 19 _ (by decide), eval_put _ 16 19 _ (by decide)]; exact E19) (fun a20 c20 w2 hf hb2 => ⟨fun _ => HSB.out w2 (btr hb hb2), ?_⟩)
      rw [show (#[true, true, true, true, false, true, true, false, true, true, false, true, true, true, true, true, true, true, false, true, true, true, true, true, false, false, false] : Array Bool).setIfInBounds 4 true = #[true, true, true, true, true, true, true, false, true, true, false, true, true, true, true, true, true, true, false, true, true, true, true, true, false, false, false] from by kernel_rfl, put_swap _ 39 20 _ _ (by decide)]
      exact st0_1_4_23_ g16 a20 c20 a39 c39 w2 (btr hb hb2) (f16.below hb2) hf (f39.below hb2)
    · refine M18 _ _ _ (by rw [eval_put _ 39 28 _ (by decide), eval_put _ 17 28 _ (by decide), eval_put _ 16 28 _ (by decide)]; exact E28) (by rw [eval_put _ 39 31 _ (by decide), eval_put _ 17 31 _ (by decide), eval_put _ 16 31 _ (by decide)]; exact E31) (by rw [eval_put _ 39 33 _ (by decide), eval_put _ 17 33 _ (by decide), eval_put _ 16 33 _ (by decide)]; exact E33) (fun a34 c34 w2 hf hb2 => ⟨fun _ => HSB.out w2 (btr hb hb2), ?_⟩)
      rw [show (#[true, true, true, true, false, true, true, false, true, true, false, true, true, true, true, true, true, true, false, true, true, true, true, true, false, false, false] : Array Bool).setIfInBounds 18 true = #[true, true, true, true, false, true, true, false, true, true, false, true, true, true, true, true, true, true, true, true, true, true, true, true, false, false, false] from by kernel_rfl, put_swap _ 39 34 _ _ (by decide)]
      exact st0_1_18_23_ g16 a34 c34 a39 c39 w2 (btr hb hb2) (f16.below hb2) hf (f39.below hb2)
  have st4_7_23_ : ∀ (a20 : Option Addr) (c20 : Nat) (a23 : Option Addr) (c23 : Nat) (a39 : Option Addr) (c39 : Nat) (w1 : World), Below W.heap.size W w1 → Bytes w1 (.slice a20 4 c20) (be4 p.gen) → Bytes w1 (.slice a23 4 c23) (be4 p.serial) → Bytes w1 (.slice a39 rm c39) (List.replicate rm 0) → T 7 #[false, false, true, true, true, true, true, true, true, true, false, true, true, true, true, true, true, true, false, true, true, true, true, true, false, false, false] (((A.put (some 20) (.slice a20 4 c20)).put (some 23) (.slice a23 4 c23)).put (some 39) (.slice a39 rm c39)) w1 := by
    intro a20 c20 a23 c23 a39 c39 w1 hb f20 f23 f39
    refine HT _ _ _ _ [0, 10, 18] (by rw [HR]; kernel_rfl) (by decide) ?_
    refine List.forall_mem_cons.2 ⟨?_, List.forall_mem_cons.2 ⟨?_, List.forall_mem_cons.2 ⟨?_, fun _ h => by cases h⟩⟩⟩
    · refine M0 _ _ _ hb  (fun g16 w2 hf hb2 => ⟨fun _ => HSB.out w2 (btr hb hb2), ?_⟩)
      rw [show (#[false, false, true, true, true, true, true, true, true, true, false, true, true, true, true, true, true, true, false, true, true, true, true, true, false, false, false] : Array Bool).setIfInBounds 0 true = #[true, false, true, true, true, true, true, true, true, true, false, true, true, true, true, true, true, true, false, true, true, true, true, true, false, false, false] from by kernel_rfl, put_swap _ 39 16 _ _ (by decide), put_swap _ 23 16 _ _ (by decide), put_swap _ 20 16 _ _ (by decide)]
      exact st0_4_7_23_ g16 a20 c20 a23 c23 a39 c39 w2 (btr hb hb2) hf (f20.below hb2) (f23.below hb2) (f39.below hb2)
    · refine M10 _ _ _ (by rw [eval_put _ 39 25 _ (by decide), eval_put _ 23 25 _ (by decide), eval_put _ 20 25 _ (by decide)]; exact E25) (fun a26 c26 w2 hf hb2 => ⟨fun _ => HSB.out w2 (btr hb hb2), ?_⟩)
      rw [show (#[false, false, true, true, true, true, true, true, true, true, false, true, true, true, true, true, true, true, false, true, true, true, true, true, false, false, false] : Array Bool).setIfInBounds 10 true = #[false, false, true, true, true, true, true, true, true, true, true, true, true, true, true, true, true, true, false, true, true, true, true, true, false, false, false] from by kernel_rfl, put_swap _ 39 26 _ _ (by decide)]
      exact st4_7_10_23_ a20 c20 a23 c23 a26 c26 a39 c39 w2 (btr hb hb2) (f20.below hb2) (f23.below hb2) hf (f39.below hb2)
    · refine M18 _ _ _ (by rw [eval_put _ 39 28 _ (by decide), eval_put _ 23 28 _ (by decide), eval_put _ 20 28 _ (by decide)]; exact E28) (by rw [eval_put _ 39 31 _ (by decide), eval_put _ 23 31 _ (by decide), eval_put _ 20 31 _ (by decide)]; exact E31) (by rw [eval_put _ 39 33 _ (by decide), eval_put _ 23 33 _ (by decide), eval_put _ 20 33 _ (by decide)]; exact E33) (fun a34 c34 w2 hf hb2 => ⟨fun _ => HSB.out w2 (btr hb hb2), ?_⟩)
      rw [show (#[false, false, true, true, true, true, true, true, true, true, false, true, true, true, true, true, true, true, false, true, true, true, true, true, false, false, false] : Array Bool).setIfInBounds 18 true = #[false, false, true, true, true, true, true, true, true, true, false, true, true, true, true, true, true, true, true, true, true, true, true, true, false, false, false] from by kernel_rfl, put_swap _ 39 34 _ _ (by decide)]
      exact st4_7_18_23_ a20 c20 a23 c23 a34 c34 a39 c39 w2 (btr hb hb2) (f20.below hb2) (f23.below hb2) hf (f39.below hb2)
  have st0_4_7_ : ∀ (g16 : Nat) (a20 : Option Addr) (c20 : Nat) (a23 : Option Addr) (c23 : Nat) (w1 : World), Below W.heap.size W w1 → Lit w1 g16 #[.int .u8 104, .int .u8 103] 5 W.heap.size → Bytes w1 (.slice a20 4 c20) (be4 p.gen) → Bytes w1 (.slice a23 4 c23) (be4 p.serial) → T 7 #[true, false, true, true, true, true, true, true, true, true, false, true, true, true, true, true, true, true, false, true, true, true, true, false, false, false, false] (((A.put (some 16) (.slice (some ⟨g16, 0, none⟩) 2 2)).put (some 20) (.slice a20 4 c20)).put (some 23) (.slice a23 4 c23)) w1 := by
    intro g16 a20 c20 a23 c23 w1 hb f16 f20 f23
    refine HT _ _ _ _ [1, 10, 18, 23] (by rw [HR]; kernel_rfl) (by decide) ?_
    refine List.forall_mem_cons.2 ⟨?_, List.forall_mem_cons.2 ⟨?_, List.forall_mem_cons.2 ⟨?_, List.forall_mem_cons.2 ⟨?_, fun _ h => by cases h⟩⟩⟩⟩
    · refine M1 _ _ _ (by rw [eval_put _ 23 16 _ (by decide), eval_put _ 20 16 _ (by decide)]; exact ep _) f16 (fun w2 hb2 hk2 hl2 => ⟨fun _ => HSB.out w2 (hb.trans hb2), ?_⟩)
      rw [show (#[true, false, true, true, true, true, true, true, true, true, false, true, true, true, true, true, true, true, false, true, true, true, true, false, false, false, false] : Array Bool).setIfInBounds 1 true = #[true, true, true, true, true, true, true, true, true, true, false, true, true, true, true, true, true, true, false, true, true, true, true, false, false, false, false] from by kernel_rfl, put_swap _ 23 17 _ _ (by decide), put_swap _ 20 17 _ _ (by decide)]
      exact st0_1_4_7_ g16 a20 c20 a23 c23 w2 (hb.trans hb2) hl2 (f20.cells hk2) (f23.cells hk2)
    · refine M10 _ _ _ (by rw [eval_put _ 23 25 _ (by decide), eval_put _ 20 25 _ (by decide), eval_put _ 16 25 _ (by decide)]; exact E25) (fun a26 c26 w2 hf hb2 => ⟨fun _ => HSB.out w2 (btr hb hb2), ?_⟩)
      rw [show (#[true, false, true, true, true, true, true, true, true, true, false, true, true, true, true, true, true, true, false, true, true, true, true, false, false, false, false] : Array Bool).setIfInBounds 10 true = #[true, false, true, true, true, true, true, true, true, true, true, true, true, true, true, true, true, true, false, true, true, true, true, false, false, false, false] from by kernel_rfl]
      exact st0_4_7_10_ g16 a20 c20 a23 c23 a26 c26 w2 (btr hb hb2) (f16.below hb2) (f20.below hb2) (f23.below hb2) hf
    · refine M18 _ _ _ (by rw [eval_put _ 23 28 _ (by decide), eval_put _ 20 28 _ (by decide), eval_put _ 16 28 _ (by decide)]; exact E28) (by rw [eval_put _ 23 31 _ (by decide), eval_put _ 20 31 _ (by decide), eval_put _ 16 31 _ (by decide)]; exact E31) (by rw [eval_put _ 23 33 _ (by decide), eval_put _ 20 33 _ (by decide), eval_put _ 16 33 _ (by decide)]; exact E33) (fun a34 c34 w2 hf hb2 => ⟨fun _ => HSB.out w2 (btr hb hb2), ?_⟩)
      rw [show (#[true, false, true, true, true, true, true, true, true, true, false, true, true, true, true, true, true, true, false, true, true, true, true, false, false, false, false] : Array Bool).setIfInBounds 18 true = #[true, false, true, true, true, true, true, true, true, true, false, true, true, true, true, true, true, true, true, true, true, true, true, false, false, false, false] from by kernel_rfl]
      exact st0_4_7_18_ g16 a20 c20 a23 c23 a34 c34 w2 (btr hb hb2) (f16.below hb2) (f20.below hb2) (f23.below hb2) hf
    · refine M23 _ _ _ (by rw [eval_put _ 23 38 _ (by decide), eval_put _ 20 38 _ (by decide), eval_put _ 16 38 _ (by decide)]; exact E38) (fun a39 c39 w2 hf hb2 => ⟨fun _ => HSB.out w2 (btr hb hb2), ?_⟩)
      rw [show (#[true, false, true, true, true, true, true, true, true, true, false, true, true, true, true, true, true, true, false, true, true, true, true, false, false, false, false] : Array Bool).setIfInBounds 23 true = #[true, false, true, true, true, true, true, true, true, true, false, true, true, true, true, true, true, true, false, true, true, true, true, true, false, false, false] from by kernel_rfl]
      exact st0_4_7_23_ g16 a20 c20 a23 c23 a39 c39 w2 (btr hb hb2) (f16.below hb2) (f20.below hb2) (f23.below hb2) hf
  have st4_7_18_ : ∀ (a20 : Option Addr) (c20 : Nat) (a23 : Option Addr) (c23 : Nat) (a34 : Option Addr) (c34 : Nat) (w1 : World), Below W.heap.size W w1 → Bytes w1 (.slice a20 4 c20) (be4 p.gen) → Bytes w1 (.slice a23 4 c23) (be4 p.serial) → Bytes w1 (.slice a34 3 c34) (UInt8.ofNat p.kind :: be2 p.data.length) → T 7 #[false, false, true, true, true, true, true, true, true, true, false, true, true, true, true, true, true, true, true, true, true, true, true, false, false, false, false] (((A.put (some 20) (.slice a20 4 c20)).put (some 23) (.slice a23 4 c23)).put (some 34) (.slice a34 3 c34)) w1 := by
    intro a20 c20 a23 c23 a34 c34 w1 hb f20 f23 f34
    refine HT _ _ _ _ [0, 10, 23] (by rw [HR]; kernel_rfl) (by decide) ?_
    refine List.forall_mem_cons.2 ⟨?_, List.forall_mem_cons.2 ⟨?_, List.forall_mem_cons.2 ⟨?_, fun _ h => by cases h⟩⟩⟩
    · refine M0 _ _ _ hb  (fun g16 w2 hf hb2 => ⟨fun _ => HSB.out w2 (btr hb hb2), ?_⟩)
      rw [show (#[false, false, true, true, true, true, true, true, true, true, false, true, true, true, true, true, true, true, true, true, true, true, true, false, false, false, false] : Array Bool).setIfInBounds 0 true = #[true, false, true, true, true, true, true, true, true, true, false, true, true, true, true, true, true, true, true, true, true, true, true, false, false, false, false] from by kernel_rfl, put_swap _ 34 16 _ _ (by decide), put_swap _ 23 16 _ _ (by decide), put_swap _ 20 16 _ _ (by decide)]
      exact st0_4_7_18_ g16 a20 c20 a23 c23 a34 c34 w2 (btr hb hb2) hf (f20.below hb2) (f23.below hb2) (f34.below hb2)
    · refine M10 _ _ _ (by rw [eval_put _ 34 25 _ (by decide), eval_put _ 23 25 _ (by decide), eval_put _ 20 25 _ (by decide)]; exact E25) (fun a26 c26 w2 hf hb2 => ⟨fun _ => HSB.out w2 (btr hb hb2), ?_⟩)
      rw [show (#[false, false, true, true, true, true, true, true, true, true, false, true, true, true, true, true, true, true, true, true, true, true, true, false, false, false, false] : Array Bool).setIfInBounds 10 true = #[false, false, true, true, true, true, true, true, true, true, true, true, true, true, true, true, true, true, true, true, true, true, true, false, false, false, false] from by kernel_rfl, put_swap _ 34 26 _ _ (by decide)]
      exact st4_7_10_18_ a20 c20 a23 c23 a26 c26 a34 c34 w2 (btr hb hb2) (f20.below hb2) (f23.below hb2) hf (f34.below hb2)
    · refine M23 _ _ _ (by rw [eval_put _ 34 38 _ (by decide), eval_put _ 23 38 _ (by decide), eval_put _ 20 38 _ (by decide)]; exact E38) (fun a39 c39 w2 hf hb2 => ⟨fun _ => HSB.out w2 (btr hb hb2), ?_⟩)
      rw [show (#[false, false, true, true, true, true, true, true, true, true, false, true, true, true, true, true, true, true, true, true, true, true, true, false, false, false, false] : Array Bool).setIfInBounds 23 true = #[false, false, true, true, true, true, true, true, true, true, false, true, true, true, true, true, true, true, true, true, true, true, true, true, false, false, false] from by kernel_rfl]
      exact st4_7_18_23_ a20 c20 a23 c23 a34 c34 a39 c39 w2 (btr hb hb2) (f20.below hb2) (f23.below hb2) (f34.below hb2) hf
  have st4_18_23_ : ∀ (a20 : Option Addr) (c20 : Nat) (a34 : Option Addr) (c34 : Nat) (a39 : Option Addr) (c39 : Nat) (w1 : World), Below W.heap.size W w1 → Bytes w1 (.slice a20 4 c20) (be4 p.gen) → Bytes w1 (.slice a34 3 c34) (UInt8.ofNat p.kind :: be2 p.data.length) → Bytes w1 (.slice a39 rm c39) (List.replicate rm 0) → T 7 #[false, false, true, true, true, true, true, false, true, true, false, true, true, true, true, true, true, true, true, true, true, true, true, true, false, false, false] (((A.put (some 20) (.slice a20 4 c20)).put (some 34) (.slice a34 3 c34)).put (some 39) (.slice a39 rm c39)) w1 := by
    intro a20 c20 a34 c34 a39 c39 w1 hb f20 f34 f39
    refine HT _ _ _ _ [0, 7] (by rw [HR]; kernel_rfl) (by decide) ?_
    refine List.forall_mem_cons.2 ⟨?_, List.forall_mem_cons.2 ⟨?_, fun _ h => by cases h⟩⟩
    · refine M0 _ _ _ hb  (fun g16 w2 hf hb2 => ⟨fun _ => HSB.out w2 (btr hb hb2), ?_⟩)
      rw [show (#[false, false, true, true, true, true, true, false, true, true, false, true, true, true, true, true, true, true, true, true, true, true, true, true, false, false, false] : Array Bool).setIfInBounds 0 true = #[true, false, true, true, true, true, true, false, true, true, false, true, true, true, true, true, true, true, true, true, true, true, true, true, false, false, false] from by kernel_rfl, put_swap _ 39 16 _ _ (by decide), put_swap _ 34 16 _ _ (by decide), put_swap _ 20 16 _ _ (by decide)]
      exact st0_4_18_23_ g16 a20 c20 a34 c34 a39 c39 w2 (btr hb hb2) hf (f20.below hb2) (f34.below hb2) (f39.below hb2)
    · refine M7 _ _ _ (by rw [eval_put _ 39 22 _ (by decide), eval_put _ 34 22 _ (by decide), eval_put _ 20 22 _ (by decide)]; exact E22) (fun a23 c23 w2 hf hb2 => ⟨fun _ => HSB.out w2 (btr hb hb2), ?_⟩)
      rw [show (#[false, false, true, true, true, true, true, false, true, true, false, true, true, true, true, true, true, true, true, true, true, true, true, true, false, false, false] : Array Bool).setIfInBounds 7 true = #[false, false, true, true, true, true, true, true, true, true, false, true, true, true, true, true, true, true, true, true, true, true, true, true, false, false, false] from by kernel_rfl, put_swap _ 39 23 _ _ (by decide), put_swap _ 34 23 _ _ (by decide)]
      exact st4_7_18_23_ a20 c20 a23 c23 a34 c34 a39 c39 w2 (btr hb hb2) (f20.below hb2) hf (f34.below hb2) (f39.below hb2)
  have st4_7_10_ : ∀ (a20 : Option Addr) (c20 : Nat) (a23 : Option Addr) (c23 : Nat) (a26 : Option Addr) (c26 : Nat) (w1 : World), Below W.heap.size W w1 → Bytes w1 (.slice a20 4 c20) (be4 p.gen) → Bytes w1 (.slice a23 4 c23) (be4 p.serial) → Bytes w1 (.slice a26 4 c26) (be4 p.number) → T 7 #[false, false, true, true, true, true, true, true, true, true, true, true, true, true, true, true, true, true, false, true, true, true, true, false, false, false, false] (((A.put (some 20) (.slice a20 4 c20)).put (some 23) (.slice a23 4 c23)).put (some 26) (.slice a26 4 c26)) w1 := by
    intro a20 c20 a23 c23 a26 c26 w1 hb f20 f23 f26
    refine HT _ _ _ _ [0, 18, 23] (by rw [HR]; kernel_rfl) (by decide) ?_
    refine List.forall_mem_cons.2 ⟨?_, List.forall_mem_cons.2 ⟨?_, List.forall_mem_cons.2 ⟨?_, fun _ h => by cases h⟩⟩⟩
    · refine M0 _ _ _ hb  (fun g16 w2 hf hb2 => ⟨fun _ => HSB.out w2 (btr hb hb2), ?_⟩)
      rw [show (#[false, false, true, true, true, true, true, true, true, true, true, true, true, true, true, true, true, true, false, true, true, true, true, false, false, false, false] : Array Bool).setIfInBounds 0 true = #[true, false, true, true, true, true, true, true, true, true, true, true, true, true, true, true, true, true, false, true, true, true, true, false, false, false, false] from by kernel_rfl, put_swap _ 26 16 _ _ (by decide), put_swap _ 23 16 _ _ (by decide), put_swap _ 20 16 _ _ (by decide)]
      exact st0_4_7_10_ g16 a20 c20 a23 c23 a26 c26 w2 (btr hb hb2) hf (f20.below hb2) (f23.below hb2) (f26.below hb2)
    · refine M18 _ _ _ (by rw [eval_put _ 26 28 _ (by decide), eval_put _ 23 28 _ (by decide), eval_put _ 20 28 _ (by decide)]; exact E28) (by rw [eval_put _ 26 31 _ (by decide), eval_put _ 23 31 _ (by decide), eval_put _ 20 31 _ (by decide)]; exact E31) (by rw [eval_put _ 26 33 _ (by decide), eval_put _ 23 33 _ (by decide), eval_put _ 20 33 _ (by decide)]; exact E33) (fun a34 c34 w2 hf hb2 => ⟨fun _ => HSB.out w2 (btr hb hb2), ?_⟩)
      rw [show (#[false, false, true, true, true, true, true, true, true, true, true, true, true, true, true, true, true, true, false, true, true, true, true, false, false, false, false] : Array Bool).setIfInBounds 18 true = #[false, false, true, true, true, true, true, true, true, true, true, true, true, true, true, true, true, true, true, true, true, true, true, false, false, false, false] from by kernel_rfl]
      exact st4_7_10_18_ a20 c20 a23 c23 a26 c26 a34 c34 w2 (btr hb hb2) (f20.below hb2) (f23.below hb2) (f26.below hb2) hf
    · refine M23 _ _ _ (by rw [eval_put _ 26 38 _ (by decide), eval_put _ 23 38 _ (by decide), eval_put _ 20 38 _ (by decide)]; exact E38) (fun a39 c39 w2 hf hb2 => ⟨fun _ => HSB.out w2 (btr hb hb2), ?_⟩)
      rw [show (#[false, false, true, true, true, true, true, true, true, true, true, true, true, true, true, true, true, true, false, true, true, true, true, false, false, false, false] : Array Bool).setIfInBounds 23 true = #[false, false, true, true, true, true, true, true, true, true, true, true, true, true, true, true, true, true, false, true, true, true, true, true, false, false, false] from by kernel_rfl]
      exact st4_7_10_23_ a20 c20 a23 c23 a26 c26 a39 c39 w2 (btr hb hb2) (f20.below hb2) (f23.below hb2) (f26.below hb2) hf
  have st0_1_18_ : ∀ (g16 : Nat) (a34 : Option Addr) (c34 : Nat) (w1 : World), Below W.heap.size W w1 → Lit w1 g16 #[.int .u8 104, .int .u8 103] 5 W.heap.size → Bytes w1 (.slice a34 3 c34) (UInt8.ofNat p.kind :: be2 p.data.length) → T 7 #[true, true, true, true, false, true, true, false, true, true, false, true, true, true, true, true, true, true, true, true, true, true, true, false, false, false, false] (((A.put (some 16) (.slice (some ⟨g16, 0, none⟩) 2 2)).put (some 17) (.slice (some ⟨g16, 0, none⟩) 2 2)).put (some 34) (.slice a34 3 c34)) w1 := by
    intro g16 a34 c34 w1 hb f16 f34
    refine HT _ _ _ _ [4, 23] (by rw [HR]; kernel_rfl) (by decide) ?_
    refine List.forall_mem_cons.2 ⟨?_, List.forall_mem_cons.2 ⟨?_, fun _ h => by cases h⟩⟩
    · refine M4 _ _ _ (by rw [eval_put _ 34 19 _ (by decide), eval_put _ 17 19 _ (by decide), eval_put _ 16 19 _ (by decide)]; exact E19) (fun a20 c20 w2 hf hb2 => ⟨fun _ => HSB.out w2 (btr hb hb2), ?_⟩)
      rw [show (#[true, true, true, true, false, true, true, false, true, true, false, true, true, true, true, true, true, true, true, true, true, true, true, false, false, false, false] : Array Bool).setIfInBounds 4 true = #[true, true, true, true, true, true, true, false, true, true, false, true, true, true, true, true, true, true, true, true, true, true, true, false, false, false, false] from by kernel_rfl, put_swap _ 34 20 _ _ (by decide)]
      exact st0_1_4_18_ g16 a20 c20 a34 c34 w2 (btr hb hb2) (f16.below hb2) hf (f34.below hb2)
    · refine M23 _ _ _ (by rw [eval_put _ 34 38 _ (by decide), eval_put _ 17 38 _ (by decide), eval_put _ 16 38 _ (by decide)]; exact E38) (fun a39 c39 w2 hf hb2 => ⟨fun _ => HSB.out w2 (btr hb hb2), ?_⟩)
      rw [show (#[true, true, true, true, false, true, true, false, true, true, false, true, true, true, true, true, true, true, true, true, true, true, true, false, false, false, false] : Array Bool).setIfInBounds 23 true = #[true, true, true, true, false, true, true, false, true, true, false, true, true, true, true, true, true, true, true, true, true, true, true, true, false, false, false] from by kernel_rfl]
      exact st0_1_18_23_ g16 a34 c34 a39 c39 w2 (btr hb hb2) (f16.below hb2) (f34.below hb2) hf
  have st0_4_23_ : ∀ (g16 : Nat) (a20 : Option Addr) (c20 : Nat) (a39 : Option Addr) (c39 : Nat) (w1 : World), Below W.heap.size W w1 → Lit w1 g16 #[.int .u8 104, .int .u8 103] 5 W.heap.size → Bytes w1 (.slice a20 4 c20) (be4 p.gen) → Bytes w1 (.slice a39 rm c39) (List.replicate rm 0) → T 7 #[true, false, true, true, true, true, true, false, true, true, false, true, true, true, true, true, true, true, false, true, true, true, true, true, false, false, false] (((A.put (some 16) (.slice (some ⟨g16, 0, none⟩) 2 2)).put (some 20) (.slice a20 4 c20)).put (some 39) (.slice a39 rm c39)) w1 := by
    intro g16 a20 c20 a39 c39 w1 hb f16 f20 f39
    refine HT _ _ _ _ [1, 7, 18] (by rw [HR]; kernel_rfl) (by decide) ?_
    refine List.forall_mem_cons.2 ⟨?_, List.forall_mem_cons.2 ⟨?_, List.forall_mem_cons.2 ⟨?_, fun _ h => by cases h⟩⟩⟩
    · refine M1 _ _ _ (by rw [eval_put _ 39 16 _ (by decide), eval_put _ 20 16 _ (by decide)]; exact ep _) f16 (fun w2 hb2 hk2 hl2 => ⟨fun _ => HSB.out w2 (hb.trans hb2), ?_⟩)
      rw [show (#[true, false, true, true, true, true, true, false, true, true, false, true, true, true, true, true, true, true, false, true, true, true, true, true, false, false, false] : Array Bool).setIfInBounds 1 true = #[true, true, true, true, true, true, true, false, true, true, false, true, true, true, true, true, true, true, false, true, true, true, true, true, false, false, false] from by kernel_rfl, put_swap _ 39 17 _ _ (by decide), put_swap _ 20 17 _ _ (by decide)]
      exact st0_1_4_23_ g16 a20 c20 a39 c39 w2 (hb.trans hb2) hl2 (f20.cells hk2) (f39.cells hk2)
    · refine M7 _ _ _ (by rw [eval_put _ 39 22 _ (by decide), eval_put _ 20 22 _ (by decide), eval_put _ 16 22 _ (by decide)]; exact E22) (fun a23 c23 w2 hf hb2 => ⟨fun _ => HSB.out w2 (btr hb hb2), ?_⟩)
      rw [show (#[true, false, true, true, true, true, true, false, true, true, false, true, true, true, true, true, true, true, false, true, true, true, true, true, false, false, false] : Array Bool).setIfInBounds 7 true = #[true, false, true, true, true, true, true, true, true, true, false, true, true, true, true, true, true, true, false, true, true, true, true, true, false, false, false] from by kernel_rfl, put_swap _ 39 23 _ _ (by decide)]
      exact st0_4_7_23_ g16 a20 c20 a23 c23 a39 c39 w2 (btr hb hb2) (f16.below hb2) (f20.below hb2) hf (f39.below hb2)
    · refine M18 _ _ _ (by rw [eval_put _ 39 28 _ (by decide), eval_put _ 20 28 _ (by decide), eval_put _ 16 28 _ (by decide)]; exact E28) (by rw [eval_put _ 39 31 _ (by decide), eval_put _ 20 31 _ (by decide), eval_put _ 16 31 _ (by decide)]; exact E31) (by rw [eval_put _ 39 33 _ (by decide), eval_put _ 20 33 _ (by decide), eval_put _ 16 33 _ (by decide)]; exact E33) (fun a34 c34 w2 hf hb2 => ⟨fun _ => HSB.out w2 (btr hb hb2), ?_⟩)
      rw [show (#[true, false, true, true, true, true, true, false, true, true, false, true, true, true, true, true, true, true, false, true, true, true, true, true, false, false, false] : Array Bool).setIfInBounds 18 true = #[true, false, true, true, true, true, true, false, true, true, false, true, true, true, true, true, true, true, true, true, true, true, true, true, false, false, false] from by kernel_rfl, put_swap _ 39 34 _ _ (by decide)]
      exact st0_4_18_23_ g16 a20 c20 a34 c34 a39 c39 w2 (btr hb hb2) (f16.below hb2) (f20.below hb2) hf (f39.below hb2)
  have st0_4_18_ : ∀ (g16 : Nat) (a20 : Option Addr) (c20 : Nat) (a34 : Option Addr) (c34 : Nat) (w1 : World), Below W.heap.size W w1 → Lit w1 g16 #[.int .u8 104, .int .u8 103] 5 W.heap.size → Bytes w1 (.slice a20 4 c20) (be4 p.gen) → Bytes w1 (.slice a34 3 c34) (UInt8.ofNat p.kind :: be2 p.data.length) → T 7 #[true, false, true, true, true, true, true, false, true, true, false, true, true, true, true, true, true, true, true, true, true, true, true, false, false, false, false] (((A.put (some 16) (.slice (some ⟨g16, 0, none⟩) 2 2)).put (some 20) (.slice a20 4 c20)).put (some 34) (.slice a34 3 c34)) w1 := by
    intro g16 a20 c20 a34 c34 w1 hb f16 f20 f34
    refine HT _ _ _ _ [1, 7, 23] (by rw [HR]; kernel_rfl) (by decide) ?_
    refine List.forall_mem_cons.2 ⟨?_, List.forall_mem_cons.2 ⟨?_, List.forall_mem_cons.2 ⟨?_, fun _ h => by cases h⟩⟩⟩
    · refine M1 _ _ _ (by rw [eval_put _ 34 16 _ (by decide), eval_put _ 20 16 _ (by decide)]; exact ep _) f16 (fun w2 hb2 hk2 hl2 => ⟨fun _ => HSB.out w2 (hb.trans hb2), ?_⟩)
      rw [show (#[true, false, true, true, true, true, true, false, true, true, false, true, true, true, true, true, true, true, true, true, true, true, true, false, false, false, false] : Array Bool).setIfInBounds 1 true = #[true, true, true, true, true, true, true, false, true, true, false, true, true, true, true, true, true, true, true, true, true, true, true, false, false, false, false] from by kernel_rfl, put_swap _ 34 17 _ _ (by decide), put_swap _ 20 17 _ _ (by decide)]
      exact st0_1_4_18_ g16 a20 c20 a34 c34 w2 (hb.trans hb2) hl2 (f20.cells hk2) (f34.cells hk2)
    · refine M7 _ _ _ (by rw [eval_put _ 34 22 _ (by decide), eval_put _ 20 22 _ (by decide), eval_put _ 16 22 _ (by decide)]; exact E22) (fun a23 c23 w2 hf hb2 => ⟨fun _ => HSB.out w2 (btr hb hb2), ?_⟩)
      rw [show (#[true, false, true, true, true, true, true, false, true, true, false, true, true, true, true, true, true, true, true, true, true, true, true, false, false, false, false] : Array Bool).setIfInBounds 7 true = #[true, false, true, true, true, true, true, true, true, true, false, true, true, true, true, true, true, true, true, true, true, true, true, false, false, false, false] from by kernel_rfl, put_swap _ 34 23 _ _ (by decide)]
      exact st0_4_7_18_ g16 a20 c20 a23 c23 a34 c34 w2 (btr hb hb2) (f16.below hb2) (f20.below hb2) hf (f34.below hb2)
    · refine M23 _ _ _ (by rw [eval_put _ 34 38 _ (by decide), eval_put _ 20 38 _ (by decide), eval_put _ 16 38 _ (by decide)]; exact E38) (fun a39 c39 w2 hf hb2 => ⟨fun _ => HSB.out w2 (btr hb hb2), ?_⟩)
      rw [show (#[true, false, true, true, true, true, true, false, true, true, false, true, true, true, true, true, true, true, true, true, true, true, true, false, false, false, false] : Array Bool).setIfInBounds 23 true = #[true, false, true, true, true, true, true, false, true, true, false, true, true, true, true, true, true, true, true, true, true, true, true, true, false, false, false] from by kernel_rfl]
      exact st0_4_18_23_ g16 a20 c20 a34 c34 a39 c39 w2 (btr hb hb2) (f16.below hb2) (f20.below hb2) (f34.below hb2) hf
  have st0_1_4_ : ∀ (g16 : Nat) (a20 : Option Addr) (c20 : Nat) (w1 : World), Below W.heap.size W w1 → Lit w1 g16 #[.int .u8 104, .int .u8 103] 5 W.heap.size → Bytes w1 (.slice a20 4 c20) (be4 p.gen) → T 7 #[true, true, true, true, true, true, true, false, true, true, false, true, true, true, true, true, true, true, false, true, true, true, true, false, false, false, false] (((A.put (some 16) (.slice (some ⟨g16, 0, none⟩) 2 2)).put (some 17) (.slice (some ⟨g16, 0, none⟩) 2 2)).put (some 20) (.slice a20 4 c20)) w1 := by
    intro g16 a20 c20 w1 hb f16 f20
    refine HT _ _ _ _ [7, 18, 23] (by rw [HR]; kernel_rfl) (by decide) ?_
    refine List.forall_mem_cons.2 ⟨?_, List.forall_mem_cons.2 ⟨?_, List.forall_mem_cons.2 ⟨?_, fun _ h => by cases h⟩⟩⟩
    · refine M7 _ _ _ (by rw [eval_put _ 20 22 _ (by decide), eval_put _ 17 22 _ (by decide), eval_put _ 16 22 _ (by decide)]; exact E22) (fun a23 c23 w2 hf hb2 => ⟨fun _ => HSB.out w2 (btr hb hb2), ?_⟩)
      rw [show (#[true, true, true, true, true, true, true, false, true, true, false, true, true, true, true, true, true, true, false, true, true, true, true, false, false, false, false] : Array Bool).setIfInBounds 7 true = #[true, true, true, true, true, true, true, true, true, true, false, true, true, true, true, true, true, true, false, true, true, true, true, false, false, false, false] from by kernel_rfl]
      exact st0_1_4_7_ g16 a20 c20 a23 c23 w2 (btr hb hb2) (f16.below hb2) (f20.below hb2) hf
    · refine M18 _ _ _ (by rw [eval_put _ 20 28 _ (by decide), eval_put _ 17 28 _ (by decide), eval_put _ 16 28 _ (by decide)]; exact E28) (by rw [eval_put _ 20 31 _ (by decide), eval_put _ 17 31 _ (by decide), eval_put _ 16 31 _ (by decide)]; exact E31) (by rw [eval_put _ 20 33 _ (by decide), eval_put _ 17 33 _ (by decide), eval_put _ 16 33 _ (by decide)]; exact E33) (fun a34 c34 w2 hf hb2 => ⟨fun _ => HSB.out w2 (btr hb hb2), ?_⟩)
      rw [show (#[true, true, true, true, true, true, true, false, true, true, false, true, true, true, true, true, true, true, false, true, true, true, true, false, false, false, false] : Array Bool).setIfInBounds 18 true = #[true, true, true, true, true, true, true, false, true, true, false, true, true, true, true, true, true, true, true, true, true, true, true, false, false, false, false] from by kernel_rfl]
      exact st0_1_4_18_ g16 a20 c20 a34 c34 w2 (btr hb hb2) (f16.below hb2) (f20.below hb2) hf
    · refine M23 _ _ _ (by rw [eval_put _ 20 38 _ (by decide), eval_put _ 17 38 _ (by decide), eval_put _ 16 38 _ (by decide)]; exact E38) (fun a39 c39 w2 hf hb2 => ⟨fun _ => HSB.out w2 (btr hb hb2), ?_⟩)
      rw [show (#[true, true, true, true, true, true, true, false, true, true, false, true, true, true, true, true, true, true, false, true, true, true, true, false, false, false, false] : Array Bool).setIfInBounds 23 true = #[true, true, true, true, true, true, true, false, true, true, false, true, true, true, true, true, true, true, false, true, true, true, true, true, false, false, false] from by kernel_rfl]
      exact st0_1_4_23_ g16 a20 c20 a39 c39 w2 (btr hb hb2) (f16.below hb2) (f20.below hb2) hf
  have st4_18_ : ∀ (a20 : Option Addr) (c20 : Nat) (a34 : Option Addr) (c34 : Nat) (w1 : World), Below W.heap.size W w1 → Bytes w1 (.slice a20 4 c20) (be4 p.gen) → Bytes w1 (.slice a34 3 c34) (UInt8.ofNat p.kind :: be2 p.data.length) → T 8 #[false, false, true, true, true, true, true, false, true, true, false, true, true, true, true, true, true, true, true, true, true, true, true, false, false, false, false] ((A.put (some 20) (.slice a20 4 c20)).put (some 34) (.slice a34 3 c34)) w1 := by
    intro a20 c20 a34 c34 w1 hb f20 f34
    refine HT _ _ _ _ [0, 7, 23] (by rw [HR]; kernel_rfl) (by decide) ?_
    refine List.forall_mem_cons.2 ⟨?_, List.forall_mem_cons.2 ⟨?_, List.forall_mem_cons.2 ⟨?_, fun _ h => by cases h⟩⟩⟩
    · refine M0 _ _ _ hb  (fun g16 w2 hf hb2 => ⟨fun _ => HSB.out w2 (btr hb hb2), ?_⟩)
      rw [show (#[false, false, true, true, true, true, true, false, true, true, false, true, true, true, true, true, true, true, true, true, true, true, true, false, false, false, false] : Array Bool).setIfInBounds 0 true = #[true, false, true, true, true, true, true, false, true, true, false, true, true, true, true, true, true, true, true, true, true, true, true, false, false, false, false] from by kernel_rfl, put_swap _ 34 16 _ _ (by decide), put_swap _ 20 16 _ _ (by decide)]
      exact st0_4_18_ g16 a20 c20 a34 c34 w2 (btr hb hb2) hf (f20.below hb2) (f34.below hb2)
    · refine M7 _ _ _ (by rw [eval_put _ 34 22 _ (by decide), eval_put _ 20 22 _ (by decide)]; exact E22) (fun a23 c23 w2 hf hb2 => ⟨fun _ => HSB.out w2 (btr hb hb2), ?_⟩)
      rw [show (#[false, false, true, true, true, true, true, false, true, true, false, true, true, true, true, true, true, true, true, true, true, true, true, false, false, false, false] : Array Bool).setIfInBounds 7 true = #[false, false, true, true, true, true, true, true, true, true, false, true, true, true, true, true, true, true, true, true, true, true, true, false, false, false, false] from by kernel_rfl, put_swap _ 34 23 _ _ (by decide)]
      exact st4_7_18_ a20 c20 a23 c23 a34 c34 w2 (btr hb hb2) (f20.below hb2) hf (f34.below hb2)
    · refine M23 _ _ _ (by rw [eval_put _ 34 38 _ (by decide), eval_put _ 20 38 _ (by decide)]; exact E38) (fun a39 c39 w2 hf hb2 => ⟨fun _ => HSB.out w2 (btr hb hb2), ?_⟩)
      rw [show (#[false, false, true, true, true, true, true, false, true, true, false, true, true, true, true, true, true, true, true, true, true, true, true, false, false, false, false] : Array Bool).setIfInBounds 23 true = #[false, false, true, true, true, true, true, false, true, true, false, true, true, true, true, true, true, true, true, true, true, true, true, true, false, false, false] from by kernel_rfl]
      exact st4_18_23_ a20 c20 a34 c34 a39 c39 w2 (btr hb hb2) (f20.below hb2) (f34.below hb2) hf
  have st18_23_ : ∀ (a34 : Option Addr) (c34 : Nat) (a39 : Option Addr) (c39 : Nat) (w1 : World), Below W.heap.size W w1 → Bytes w1 (.slice a34 3 c34) (UInt8.ofNat p.kind :: be2 p.data.length) → Bytes w1 (.slice a39 rm c39) (List.replicate rm 0) → T 8 #[false, false, true, true, false, true, true, false, true, true, false, true, true, true, true, true, true, true, true, true, true, true, true, true, false, false, false] ((A.put (some 34) (.slice a34 3 c34)).put (some 39) (.slice a39 rm c39)) w1 := by
    intro a34 c34 a39 c39 w1 hb f34 f39
    refine HT _ _ _ _ [0, 4] (by rw [HR]; kernel_rfl) (by decide) ?_
    refine List.forall_mem_cons.2 ⟨?_, List.forall_mem_cons.2 ⟨?_, fun _ h => by cases h⟩⟩
    · refine M0 _ _ _ hb  (fun g16 w2 hf hb2 => ⟨fun _ => HSB.out w2 (btr hb hb2), ?_⟩)
      rw [show (#[false, false, true, true, false, true, true, false, true, true, false, true, true, true, true, true, true, true, true, true, true, true, true, true, false, false, false] : Array Bool).setIfInBounds 0 true = #[true, false, true, true, false, true, true, false, true, true, false, true, true, true, true, true, true, true, true, true, true, true, true, true, false, false, false] from by kernel_rfl, put_swap _ 39 16 _ _ (by decide), put_swap _ 34 16 _ _ (by decide)]
      exact st0_18_23_ g16 a34 c34 a39 c39 w2 (btr hb hb2) hf (f34.below hb2) (f39.below hb2)
    · refine M4 _ _ _ (by rw [eval_put _ 39 19 _ (by decide), eval_put _ 34 19 _ (by decide)]; exact E19) (fun a20 c20 w2 hf hb2 => ⟨fun _ => HSB.out w2 (btr hb hb2), ?_⟩)
      rw [show (#[false, false, true, true, false, true, true, false, true, true, false, true, true, true, true, true, true, true, true, true, true, true, true, true, false, false, false] : Array Bool).setIfInBounds 4 true = #[false, false, true, true, true, true, true, false, true, true, false, true, true, true, true, true, true, true, true, true, true, true, true, true, false, false, false] from by kernel_rfl, put_swap _ 39 20 _ _ (by decide), put_swap _ 34 20 _ _ (by decide)]
      exact st4_18_23_ a20 c20 a34 c34 a39 c39 w2 (btr hb hb2) hf (f34.below hb2) (f39.below hb2)
  have st0_4_ : ∀ (g16 : Nat) (a20 : Option Addr) (c20 : Nat) (w1 : World), Below W.heap.size W w1 → Lit w1 g16 #[.int .u8 104, .int .u8 103] 5 W.heap.size → Bytes w1 (.slice a20 4 c20) (be4 p.gen) → T 8 #[true, false, true, true, true, true, true, false, true, true, false, true, true, true, true, true, true, true, false, true, true, true, true, false, false, false, false] ((A.put (some 16) (.slice (some ⟨g16, 0, none⟩) 2 2)).put (some 20) (.slice a20 4 c20)) w1 := by
    intro g16 a20 c20 w1 hb f16 f20
    refine HT _ _ _ _ [1, 7, 18, 23] (by rw [HR]; kernel_rfl) (by decide) ?_
    refine List.forall_mem_cons.2 ⟨?_, List.forall_mem_cons.2 ⟨?_, List.forall_mem_cons.2 ⟨?_, List.forall_mem_cons.2 ⟨?_, fun _ h => by cases h⟩⟩⟩⟩
    · refine M1 _ _ _ (by rw [eval_put _ 20 16 _ (by decide)]; exact ep _) f16 (fun w2 hb2 hk2 hl2 => ⟨fun _ => HSB.out w2 (hb.trans hb2), ?_⟩)
      rw [show (#[true, false, true, true, true, true, true, false, true, true, false, true, true, true, true, true, true, true, false, true, true, true, true, false, false, false, false] : Array Bool).setIfInBounds 1 true = #[true, true, true, true, true, true, true, false, true, true, false, true, true, true, true, true, true, true, false, true, true, true, true, false, false, false, false] from by kernel_rfl, put_swap _ 20 17 _ _ (by decide)]
      exact st0_1_4_ g16 a20 c20 w2 (hb.trans hb2) hl2 (f20.cells hk2)
    · refine M7 _ _ _ (by rw [eval_put _ 20 22 _ (by decide), eval_put _ 16 22 _ (by decide)]; exact E22) (fun a23 c23 w2 hf hb2 => ⟨fun _ => HSB.out w2 (btr hb hb2), ?_⟩)
      rw [show (#[true, false, true, true, true, true, true, false, true, true, false, true, true, true, true, true, true, true, false, true, true, true, true, false, false, false, false] : Array Bool).setIfInBounds 7 true = #[true, false, true, true, true, true, true, true, true, true, false, true, true, true, true, true, true, true, false, true, true, true, true, false, false, false, false] from by kernel_rfl]
      exact st0_4_7_ g16 a20 c20 a23 c23 w2 (btr hb hb2) (f16.below hb2) (f20.below hb2) hf
    · refine M18 _ _ _ (by rw [eval_put _ 20 28 _ (by decide), eval_put _ 16 28 _ (by decide)]; exact E28) (by rw [eval_put _ 20 31 _ (by decide), eval_put _ 16 31 _ (by decide)]; exact E31) (by rw [eval_put _ 20 33 _ (by decide), eval_put _ 16 33 _ (by decide)]; exact E33) (fun a34 c34 w2 hf hb2 => ⟨fun _ => HSB.out w2 (btr hb hb2), ?_⟩)
      rw [show (#[true, false, true, true, true, true, true, false, true, true, false, true, true, true, true, true, true, true, false, true, true, true, true, false, false, false, false] : Array Bool).setIfInBounds 18 true = #[true, false, true, true, true, true, true, false, true, true, false, true, true, true, true, true, true, true, true, true, true, true, true, false, false, false, false] from by kernel_rfl]
      exact st0_4_18_ g16 a20 c20 a34 c34 w2 (btr hb hb2) (f16.below hb2) (f20.below hb2) hf
    · refine M23 _ _ _ (by rw [eval_put _ 20 38 _ (by decide), eval_put _ 16 38 _ (by decide)]; exact E38) (fun a39 c39 w2 hf hb2 => ⟨fun _ => HSB.out w2 (btr hb hb2), ?_⟩)
      rw [show (#[true, false, true, true, true, true, true, false, true, true, false, true, true, true, true, true, true, true, false, true, true, true, true, false, false, false, false] : Array Bool).setIfInBounds 23 true = #[true, false, true, true, true, true, true, false, true, true, false, true, true, true, true, true, true, true, false, true, true, true, true, true, false, false, false] from by kernel_rfl]
      exact st0_4_23_ g16 a20 c20 a39 c39 w2 (btr hb hb2) (f16.below hb2) (f20.below hb2) hf
  have st4_7_ : ∀ (a20 : Option Addr) (c20 : Nat) (a23 : Option Addr) (c23 : Nat) (w1 : World), Below W.heap.size W w1 → Bytes w1 (.slice a20 4 c20) (be4 p.gen) → Bytes w1 (.slice a23 4 c23) (be4 p.serial) → T 8 #[false, false, true, true, true, true, true, true, true, true, false, true, true, true, true, true, true, true, false, true, true, true, true, false, false, false, false] ((A.put (some 20) (.slice a20 4 c20)).put (some 23) (.slice a23 4 c23)) w1 := by
    intro a20 c20 a23 c23 w1 hb f20 f23
    refine HT _ _ _ _ [0, 10, 18, 23] (by rw [HR]; kernel_rfl) (by decide) ?_
    refine List.forall_mem_cons.2 ⟨?_, List.forall_mem_cons.2 ⟨?_, List.forall_mem_cons.2 ⟨?_, List.forall_mem_cons.2 ⟨?_, fun _ h => by cases h⟩⟩⟩⟩
    · refine M0 _ _ _ hb  (fun g16 w2 hf hb2 => ⟨fun _ => HSB.out w2 (btr hb hb2), ?_⟩)
      rw [show (#[false, false, true, true, true, true, true, true, true, true, false, true, true, true, true, true, true, true, false, true, true, true, true, false, false, false, false] : Array Bool).setIfInBounds 0 true = #[true, false, true, true, true, true, true, true, true, true, false, true, true, true, true, true, true, true, false, true, true, true, true, false, false, false, false] from by kernel_rfl, put_swap _ 23 16 _ _ (by decide), put_swap _ 20 16 _ _ (by decide)]
      exact st0_4_7_ g16 a20 c20 a23 c23 w2 (btr hb hb2) hf (f20.below hb2) (f23.below hb2)
    · refine M10 _ _ _ (by rw [eval_put _ 23 25 _ (by decide), eval_put _ 20 25 _ (by decide)]; exact E25) (fun a26 c26 w2 hf hb2 => ⟨fun _ => HSB.out w2 (btr hb hb2), ?_⟩)
      rw [show (#[false, false, true, true, true, true, true, true, true, true, false, true, true, true, true, true, true, true, false, true, true, true, true, false, false, false, false] : Array Bool).setIfInBounds 10 true = #[false, false, true, true, true, true, true, true, true, true, true, true, true, true, true, true, true, true, false, true, true, true, true, false, false, false, false] from by kernel_rfl]
      exact st4_7_10_ a20 c20 a23 c23 a26 c26 w2 (btr hb hb2) (f20.below hb2) (f23.below hb2) hf
    · refine M18 _ _ _ (by rw [eval_put _ 23 28 _ (by decide), eval_put _ 20 28 _ (by decide)]; exact E28) (by rw [eval_put _ 23 31 _ (by decide), eval_put _ 20 31 _ (by decide)]; exact E31) (by rw [eval_put _ 23 33 _ (by decide), eval_put _ 20 33 _ (by decide)]; exact E33) (fun a34 c34 w2 hf hb2 => ⟨fun _ => HSB.out w2 (btr hb hb2), ?_⟩)
      rw [show (#[false, false, true, true, true, true, true, true, true, true, false, true, true, true, true, true, true, true, false, true, true, true, true, false, false, false, false] : Array Bool).setIfInBounds 18 true = #[false, false, true, true, true, true, true, true, true, true, false, true, true, true, true, true, true, true, true, true, true, true, true, false, false, false, false] from by kernel_rfl]
      exact st4_7_18_ a20 c20 a23 c23 a34 c34 w2 (btr hb hb2) (f20.below hb2) (f23.below hb2) hf
    · refine M23 _ _ _ (by rw [eval_put _ 23 38 _ (by decide), eval_put _ 20 38 _ (by decide)]; exact E38) (fun a39 c39 w2 hf hb2 => ⟨fun _ => HSB.out w2 (btr hb hb2), ?_⟩)
      rw [show (#[false, false, true, true, true, true, true, true, true, true, false, true, true, true, true, true, true, true, false, true, true, true, true, false, false, false, false] : Array Bool).setIfInBounds 23 true = #[false, false, true, true, true, true, true, true, true, true, false, true, true, true, true, true, true, true, false, true, true, true, true, true, false, false, false] from by kernel_rfl]
      exact st4_7_23_ a20 c20 a23 c23 a39 c39 w2 (btr hb hb2) (f20.below hb2) (f23.below hb2) hf
  have st0_18_ : ∀ (g16 : Nat) (a34 : Option Addr) (c34 : Nat) (w1 : World), Below W.heap.size W w1 → Lit w1 g16 #[.int .u8 104, .int .u8 103] 5 W.heap.size → Bytes w1 (.slice a34 3 c34) (UInt8.ofNat p.kind :: be2 p.data.length) → T 8 #[true, false, true, true, false, true, true, false, true, true, false, true, true, true, true, true, true, true, true, true, true, true, true, false, false, false, false] ((A.put (some 16) (.slice (some ⟨g16, 0, none⟩) 2 2)).put (some 34) (.slice a34 3 c34)) w1 := by
    intro g16 a34 c34 w1 hb f16 f34
    refine HT _ _ _ _ [1, 4, 23] (by rw [HR]; kernel_rfl) (by decide) ?_
    refine List.forall_mem_cons.2 ⟨?_, List.forall_mem_cons.2 ⟨?_, List.forall_mem_cons.2 ⟨?_, fun _ h => by cases h⟩⟩⟩
    · refine M1 _ _ _ (by rw [eval_put _ 34 16 _ (by decide)]; exact ep _) f16 (fun w2 hb2 hk2 hl2 => ⟨fun _ => HSB.out w2 (hb.trans hb2), ?_⟩)
      rw [show (#[true, false, true, true, false, true, true, false, true, true, false, true, true, true, true, true, true, true, true, true, true, true, true, false, false, false, false] : Array Bool).setIfInBounds 1 true = #[true, true, true, true, false, true, true, false, true, true, false, true, true, true, true, true, true, true, true, true, true, true, true, false, false, false, false] from by kernel_rfl, put_swap _ 34 17 _ _ (by decide)]
      exact st0_1_18_ g16 a34 c34 w2 (hb.trans hb2) hl2 (f34.cells hk2)
    · refine M4 _ _ _ (by rw [eval_put _ 34 19 _ (by decide), eval_put _ 16 19 _ (by decide)]; exact E19) (fun a20 c20 w2 hf hb2 => ⟨fun _ => HSB.out w2 (btr hb hb2), ?_⟩)
      rw [show (#[true, false, true, true, false, true, true, false, true, true, false, true, true, true, true, true, true, true, true, true, true, true, true, false, false, false, false] : Array Bool).setIfInBounds 4 true = #[true, false, true, true, true, true, true, false, true, true, false, true, true, true, true, true, true, true, true, true, true, true, true, false, false, false, false] from by kernel_rfl, put_swap _ 34 20 _ _ (by decide)]
      exact st0_4_18_ g16 a20 c20 a34 c34 w2 (btr hb hb2) (f16.below hb2) hf (f34.below hb2)
    · refine M23 _ _ _ (by rw [eval_put _ 34 38 _ (by decide), eval_put _ 16 38 _ (by decide)]; exact E38) (fun a39 c39 w2 hf hb2 => ⟨fun _ => HSB.out w2 (btr hb hb2), ?_⟩)
      rw [show (#[true, false, true, true, false, true, true, false, true, true, false, true, true, true, true, true, true, true, true, true, true, true, true, false, false, false, false] : Array Bool).setIfInBounds 23 true = #[true, false, true, true, false, true, true, false, true, true, false, true, true, true, true, true, true, true, true, true, true, true, true, true, false, false, false] from by kernel_rfl]
      exact st0_18_23_ g16 a34 c34 a39 c39 w2 (btr hb hb2) (f16.below hb2) (f34.below hb2) hf
  have st0_1_ : ∀ (g16 : Nat) (w1 : World), Below W.heap.size W w1 → Lit w1 g16 #[.int .u8 104, .int .u8 103] 5 W.heap.size → T 8 #[true, true, true, true, false, true, true, false, true, true, false, true, true, true, true, true, true, true, false, true, true, true, true, false, false, false, false] ((A.put (some 16) (.slice (some ⟨g16, 0, none⟩) 2 2)).put (some 17) (.slice (some ⟨g16, 0, none⟩) 2 2)) w1 := by
    intro g16 w1 hb f16
    refine HT _ _ _ _ [4, 18, 23] (by rw [HR]; kernel_rfl) (by decide) ?_
    refine List.forall_mem_cons.2 ⟨?_, List.forall_mem_cons.2 ⟨?_, List.forall_mem_cons.2 ⟨?_, fun _ h => by cases h⟩⟩⟩
    · refine M4 _ _ _ (by rw [eval_put _ 17 19 _ (by decide), eval_put _ 16 19 _ (by decide)]; exact E19) (fun a20 c20 w2 hf hb2 => ⟨fun _ => HSB.out w2 (btr hb hb2), ?_⟩)
      rw [show (#[true, true, true, true, false, true, true, false, true, true, false, true, true, true, true, true, true, true, false, true, true, true, true, false, false, false, false] : Array Bool).setIfInBounds 4 true = #[true, true, true, true, true, true, true, false, true, true, false, true, true, true, true, true, true, true, false, true, true, true, true, false, false, false, false] from by kernel_rfl]
      exact st0_1_4_ g16 a20 c20 w2 (btr hb hb2) (f16.below hb2) hf
    · refine M18 _ _ _ (by rw [eval_put _ 17 28 _ (by decide), eval_put _ 16 28 _ (by decide)]; exact E28) (by rw [eval_put _ 17 31 _ (by decide), eval_put _ 16 31 _ (by decide)]; exact E31) (by rw [eval_put _ 17 33 _ (by decide), eval_put _ 16 33 _ (by decide)]; exact E33) (fun a34 c34 w2 hf hb2 => ⟨fun _ => HSB.out w2 (btr hb hb2), ?_⟩)
      rw [show (#[true, true, true, true, false, true, true, false, true, true, false, true, true, true, true, true, true, true, false, true, true, true, true, false, false, false, false] : Array Bool).setIfInBounds 18 true = #[true, true, true, true, false, true, true, false, true, true, false, true, true, true, true, true, true, true, true, true, true, true, true, false, false, false, false] from by kernel_rfl]
      exact st0_1_18_ g16 a34 c34 w2 (btr hb hb2) (f16.below hb2) hf
    · refine M23 _ _ _ (by rw [eval_put _ 17 38 _ (by decide), eval_put _ 16 38 _ (by decide)]; exact E38) (fun a39 c39 w2 hf hb2 => ⟨fun _ => HSB.out w2 (btr hb hb2), ?_⟩)
      rw [show (#[true, true, true, true, false, true, true, false, true, true, false, true, true, true, true, true, true, true, false, true, true, true, true, false, false, false, false] : Array Bool).setIfInBounds 23 true = #[true, true, true, true, false, true, true, false, true, true, false, true, true, true, true, true, true, true, false, true, true, true, true, true, false, false, false] from by kernel_rfl]
      exact st0_1_23_ g16 a39 c39 w2 (btr hb hb2) (f16.below hb2) hf
  have st0_23_ : ∀ (g16 : Nat) (a39 : Option Addr) (c39 : Nat) (w1 : World), Below W.heap.size W w1 → Lit w1 g16 #[.int .u8 104, .int .u8 103] 5 W.heap.size → Bytes w1 (.slice a39 rm c39) (List.replicate rm 0) → T 8 #[true, false, true, true, false, true, true, false, true, true, false, true, true, true, true, true, true, true, false, true, true, true, true, true, false, false, false] ((A.put (some 16) (.slice (some ⟨g16, 0, none⟩) 2 2)).put (some 39) (.slice a39 rm c39)) w1 := by
    intro g16 a39 c39 w1 hb f16 f39
    refine HT _ _ _ _ [1, 4, 18] (by rw [HR]; kernel_rfl) (by decide) ?_
    refine List.forall_mem_cons.2 ⟨?_, List.forall_mem_cons.2 ⟨?_, List.forall_mem_cons.2 ⟨?_, fun _ h => by cases h⟩⟩⟩
    · refine M1 _ _ _ (by rw [eval_put _ 39 16 _ (by decide)]; exact ep _) f16 (fun w2 hb2 hk2 hl2 => ⟨fun _ => HSB.out w2 (hb.trans hb2), ?_⟩)
      rw [show (#[true, false, true, true, false, true, true, false, true, true, false, true, true, true, true, true, true, true, false, true, true, true, true, true, false, false, false] : Array Bool).setIfInBounds 1 true = #[true, true, true, true, false, true, true, false, true, true, false, true, true, true, true, true, true, true, false, true, true, true, true, true, false, false, false] from by kernel_rfl, put_swap _ 39 17 _ _ (by decide)]
      exact st0_1_23_ g16 a39 c39 w2 (hb.trans hb2) hl2 (f39.cells hk2)
    · refine M4 _ _ _ (by rw [eval_put _ 39 19 _ (by decide), eval_put _ 16 19 _ (by decide)]; exact E19) (fun a20 c20 w2 hf hb2 => ⟨fun _ => HSB.out w2 (btr hb hb2), ?_⟩)
      rw [show (#[true, false, true, true, false, true, true, false, true, true, false, true, true, true, true, true, true, true, false, true, true, true, true, true, false, false, false] : Array Bool).setIfInBounds 4 true = #[true, false, true, true, true, true, true, false, true, true, false, true, true, true, true, true, true, true, false, true, true, true, true, true, false, false, false] from by kernel_rfl, put_swap _ 39 20 _ _ (by decide)]
      exact st0_4_23_ g16 a20 c20 a39 c39 w2 (btr hb hb2) (f16.below hb2) hf (f39.below hb2)
    · refine M18 _ _ _ (by rw [eval_put _ 39 28 _ (by decide), eval_put _ 16 28 _ (by decide)]; exact E28) (by rw [eval_put _ 39 31 _ (by decide), eval_put _ 16 31 _ (by decide)]; exact E31) (by rw [eval_put _ 39 33 _ (by decide), eval_put _ 16 33 _ (by decide)]; exact E33) (fun a34 c34 w2 hf hb2 => ⟨fun _ => HSB.out w2 (btr hb hb2), ?_⟩)
      rw [show (#[true, false, true, true, false, true, true, false, true, true, false, true, true, true, true, true, true, true, false, true, true, true, true, true, false, false, false] : Array Bool).setIfInBounds 18 true = #[true, false, true, true, false, true, true, false, true, true, false, true, true, true, true, true, true, true, true, true, true, true, true, true, false, false, false] from by kernel_rfl, put_swap _ 39 34 _ _ (by decide)]
      exact st0_18_23_ g16 a34 c34 a39 c39 w2 (btr hb hb2) (f16.below hb2) hf (f39.below hb2)
  have st4_23_ : ∀ (a20 : Option Addr) (c20 : Nat) (a39 : Option Addr) (c39 : Nat) (w1 : World), Below W.heap.size W w1 → Bytes w1 (.slice a20 4 c20) (be4 p.gen) → Bytes w1 (.slice a39 rm c39) (List.replicate rm 0) → T 8 #[false, false, true, true, true, true, true, false, true, true, false, true, true, true, true, true, true, true, false, true, true, true, true, true, false, false, false] ((A.put (some 20) (.slice a20 4 c20)).put (some 39) (.slice a39 rm c39)) w1 := by
    intro a20 c20 a39 c39 w1 hb f20 f39
    refine HT _ _ _ _ [0, 7, 18] (by rw [HR]; kernel_rfl) (by decide) ?_
    refine List.forall_mem_cons.2 ⟨?_, List.forall_mem_cons.2 ⟨?_, List.forall_mem_cons.2 ⟨?_, fun _ h => by cases h⟩⟩⟩
    · refine M0 _ _ _ hb  (fun g16 w2 hf hb2 => ⟨fun _ => HSB.out w2 (btr hb hb2), ?_⟩)
      rw [show (#[false, false, true, true, true, true, true, false, true, true, false, true, true, true, true, true, true, true, false, true, true, true, true, true, false, false, false] : Array Bool).setIfInBounds 0 true = #[true, false, true, true, true, true, true, false, true, true, false, true, true, true, true, true, true, true, false, true, true, true, true, true, false, false, false] from by kernel_rfl, put_swap _ 39 16 _ _ (by decide), put_swap _ 20 16 _ _ (by decide)]
      exact st0_4_23_ g16 a20 c20 a39 c39 w2 (btr hb hb2) hf (f20.below hb2) (f39.below hb2)
    · refine M7 _ _ _ (by rw [eval_put _ 39 22 _ (by decide), eval_put _ 20 22 _ (by decide)]; exact E22) (fun a23 c23 w2 hf hb2 => ⟨fun _ => HSB.out w2 (btr hb hb2), ?_⟩)
      rw [show (#[false, false, true, true, true, true, true, false, true, true, false, true, true, true, true, true, true, true, false, true, true, true, true, true, false, false, false] : Array Bool).setIfInBounds 7 true = #[false, false, true, true, true, true, true, true, true, true, false, true, true, true, true, true, true, true, false, true, true, true, true, true, false, false, false] from by kernel_rfl, put_swap _ 39 23 _ _ (by decide)]
      exact st4_7_23_ a20 c20 a23 c23 a39 c39 w2 (btr hb hb2) (f20.below hb2) hf (f39.below hb2)
    · refine M18 _ _ _ (by rw [eval_put _ 39 28 _ (by decide), eval_put _ 20 28 _ (by decide)]; exact E28) (by rw [eval_put _ 39 31 _ (by decide), eval_put _ 20 31 _ (by decide)]; exact E31) (by rw [eval_put _ 39 33 _ (by decide), eval_put _ 20 33 _ (by decide)]; exact E33) (fun a34 c34 w2 hf hb2 => ⟨fun _ => HSB.out w2 (btr hb hb2), ?_⟩)
      rw [show (#[false, false, true, true, true, true, true, false, true, true, false, true, true, true, true, true, true, true, false, true, true, true, true, true, false, false, false] : Array Bool).setIfInBounds 18 true = #[false, false, true, true, true, true, true, false, true, true, false, true, true, true, true, true, true, true, true, true, true, true, true, true, false, false, false] from by kernel_rfl, put_swap _ 39 34 _ _ (by decide)]
      exact st4_18_23_ a20 c20 a34 c34 a39 c39 w2 (btr hb hb2) (f20.below hb2) hf (f39.below hb2)
  have st18_ : ∀ (a34 : Option Addr) (c34 : Nat) (w1 : World), Below W.heap.size W w1 → Bytes w1 (.slice a34 3 c34) (UInt8.ofNat p.kind :: be2 p.data.length) → T 9 #[false, false, true, true, false, true, true, false, true, true, false, true, true, true, true, true, true, true, true, true, true, true, true, false, false, false, false] (A.put (some 34) (.slice a34 3 c34)) w1 := by
    intro a34 c34 w1 hb f34
    refine HT _ _ _ _ [0, 4, 23] (by rw [HR]; kernel_rfl) (by decide) ?_
    refine List.forall_mem_cons.2 ⟨?_, List.forall_mem_cons.2 ⟨?_, List.forall_mem_cons.2 ⟨?_, fun _ h => by cases h⟩⟩⟩
    · refine M0 _ _ _ hb  (fun g16 w2 hf hb2 => ⟨fun _ => HSB.out w2 (btr hb hb2), ?_⟩)
      rw [show (#[false, false, true, true, false, true, true, false, true, true, false, true, true, true, true, true, true, true, true, true, true, true, true, false, false, false, false] : Array Bool).setIfInBounds 0 true = #[true, false, true, true, false, true, true, false, true, true, false, true, true, true, true, true, true, true, true, true, true, true, true, false, false, false, false] from by kernel_rfl, put_swap _ 34 16 _ _ (by decide)]
      exact st0_18_ g16 a34 c34 w2 (btr hb hb2) hf (f34.below hb2)
    · refine M4 _ _ _ (by rw [eval_put _ 34 19 _ (by decide)]; exact E19) (fun a20 c20 w2 hf hb2 => ⟨fun _ => HSB.out w2 (btr hb hb2), ?_⟩)
      rw [show (#[false, false, true, true, false, true, true, false, true, true, false, true, true, true, true, true, true, true, true, true, true, true, true, false, false, false, false] : Array Bool).setIfInBounds 4 true = #[false, false, true, true, true, true, true, false, true, true, false, true, true, true, true, true, true, true, true, true, true, true, true, false, false, false, false] from by kernel_rfl, put_swap _ 34 20 _ _ (by decide)]
      exact st4_18_ a20 c20 a34 c34 w2 (btr hb hb2) hf (f34.below hb2)
    · refine M23 _ _ _ (by rw [eval_put _ 34 38 _ (by decide)]; exact E38) (fun a39 c39 w2 hf hb2 => ⟨fun _ => HSB.out w2 (btr hb hb2), ?_⟩)
      rw [show (#[false, false, true, true, false, true, true, false, true, true, false, true, true, true, true, true, true, true, true, true, true, true, true, false, false, false, false] : Array Bool).setIfInBounds 23 true = #[false, false, true, true, false, true, true, false, true, true, false, true, true, true, true, true, true, true, true, true, true, true, true, true, false, false, false] from by kernel_rfl]
      exact st18_23_ a34 c34 a39 c39 w2 (btr hb hb2) (f34.below hb2) hf
  have st23_ : ∀ (a39 : Option Addr) (c39 : Nat) (w1 : World), Below W.heap.size W w1 → Bytes w1 (.slice a39 rm c39) (List.replicate rm 0) → T 9 #[false, false, true, true, false, true, true, false, true, true, false, true, true, true, true, true, true, true, false, true, true, true, true, true, false, false, false] (A.put (some 39) (.slice a39 rm c39)) w1 := by
    intro a39 c39 w1 hb f39
    refine HT _ _ _ _ [0, 4, 18] (by rw [HR]; kernel_rfl) (by decide) ?_
    refine List.forall_mem_cons.2 ⟨?_, List.forall_mem_cons.2 ⟨?_, List.forall_mem_cons.2 ⟨?_, fun _ h => by cases h⟩⟩⟩
    · refine M0 _ _ _ hb  (fun g16 w2 hf hb2 => ⟨fun _ => HSB.out w2 (btr hb hb2), ?_⟩)
      rw [show (#[false, false, true, true, false, true, true, false, true, true, false, true, true, true, true, true, true, true, false, true, true, true, true, true, false, false, false] : Array Bool).setIfInBounds 0 true = #[true, false, true, true, false, true, true, false, true, true, false, true, true, true, true, true, true, true, false, true, true, true, true, true, false, false, false] from by kernel_rfl, put_swap _ 39 16 _ _ (by decide)]
      exact st0_23_ g16 a39 c39 w2 (btr hb hb2) hf (f39.below hb2)
    · refine M4 _ _ _ (by rw [eval_put _ 39 19 _ (by decide)]; exact E19) (fun a20 c20 w2 hf hb2 => ⟨fun _ => HSB.out w2 (btr hb hb2), ?_⟩)
      rw [show (#[false, false, true, true, false, true, true, false, true, true, false, true, true, true, true, true, true, true, false, true, true, true, true, true, false, false, false] : Array Bool).setIfInBounds 4 true = #[false, false, true, true, true, true, true, false, true, true, false, true, true, true, true, true, true, true, false, true, true, true, true, true, false, false, false] from by kernel_rfl, put_swap _ 39 20 _ _ (by decide)]
      exact st4_23_ a20 c20 a39 c39 w2 (btr hb hb2) hf (f39.below hb2)
    · refine M18 _ _ _ (by rw [eval_put _ 39 28 _ (by decide)]; exact E28) (by rw [eval_put _ 39 31 _ (by decide)]; exact E31) (by rw [eval_put _ 39 33 _ (by decide)]; exact E33) (fun a34 c34 w2 hf hb2 => ⟨fun _ => HSB.out w2 (btr hb hb2), ?_⟩)
      rw [show (#[false, false, true, true, false, true, true, false, true, true, false, true, true, true, true, true, true, true, false, true, true, true, true, true, false, false, false] : Array Bool).setIfInBounds 18 true = #[false, false, true, true, false, true, true, false, true, true, false, true, true, true, true, true, true, true, true, true, true, true, true, true, false, false, false] from by kernel_rfl, put_swap _ 39 34 _ _ (by decide)]
      exact st18_23_ a34 c34 a39 c39 w2 (btr hb hb2) hf (f39.below hb2)
  have st4_ : ∀ (a20 : Option Addr) (c20 : Nat) (w1 : World), Below W.heap.size W w1 → Bytes w1 (.slice a20 4 c20) (be4 p.gen) → T 9 #[false, false, true, true, true, true, true, false, true, true, false, true, true, true, true, true, true, true, false, true, true, true, true, false, false, false, false] (A.put (some 20) (.slice a20 4 c20)) w1 := by
    intro a20 c20 w1 hb f20
    refine HT _ _ _ _ [0, 7, 18, 23] (by rw [HR]; kernel_rfl) (by decide) ?_
    refine List.forall_mem_cons.2 ⟨?_, List.forall_mem_cons.2 ⟨?_, List.forall_mem_cons.2 ⟨?_, List.forall_mem_cons.2 ⟨?_, fun _ h => by cases h⟩⟩⟩⟩
    · refine M0 _ _ _ hb  (fun g16 w2 hf hb2 => ⟨fun _ => HSB.out w2 (btr hb hb2), ?_⟩)
      rw [show (#[false, false, true, true, true, true, true, false, true, true, false, true, true, true, true, true, true, true, false, true, true, true, true, false, false, false, false] : Array Bool).setIfInBounds 0 true = #[true, false, true, true, true, true, true, false, true, true, false, true, true, true, true, true, true, true, false, true, true, true, true, false, false, false, false] from by kernel_rfl, put_swap _ 20 16 _ _ (by decide)]
      exact st0_4_ g16 a20 c20 w2 (btr hb hb2) hf (f20.below hb2)
    · refine M7 _ _ _ (by rw [eval_put _ 20 22 _ (by decide)]; exact E22) (fun a23 c23 w2 hf hb2 => ⟨fun _ => HSB.out w2 (btr hb hb2), ?_⟩)
      rw [show (#[false, false, true, true, true, true, true, false, true, true, false, true, true, true, true, true, true, true, false, true, true, true, true, false, false, false, false] : Array Bool).setIfInBounds 7 true = #[false, false, true, true, true, true, true, true, true, true, false, true, true, true, true, true, true, true, false, true, true, true, true, false, false, false, false] from by kernel_rfl]
      exact st4_7_ a20 c20 a23 c23 w2 (btr hb hb2) (f20.below hb2) hf
    · refine M18 _ _ _ (by rw [eval_put _ 20 28 _ (by decide)]; exact E28) (by rw [eval_put _ 20 31 _ (by decide)]; exact E31) (by rw [eval_put _ 20 33 _ (by decide)]; exact E33) (fun a34 c34 w2 hf hb2 => ⟨fun _ => HSB.out w2 (btr hb hb2), ?_⟩)
      rw [show (#[false, false, true, true, true, true, true, false, true, true, false, true, true, true, true, true, true, true, false, true, true, true, true, false, false, false, false] : Array Bool).setIfInBounds 18 true = #[false, false, true, true, true, true, true, false, true, true, false, true, true, true, true, true, true, true, true, true, true, true, true, false, false, false, false] from by kernel_rfl]
      exact st4_18_ a20 c20 a34 c34 w2 (btr hb hb2) (f20.below hb2) hf
    · refine M23 _ _ _ (by rw [eval_put _ 20 38 _ (by decide)]; exact E38) (fun a39 c39 w2 hf hb2 => ⟨fun _ => HSB.out w2 (btr hb hb2), ?_⟩)
      rw [show (#[false, false, true, true, true, true, true, false, true, true, false, true, true, true, true, true, true, true, false, true, true, true, true, false, false, false, false] : Array Bool).setIfInBounds 23 true = #[false, false, true, true, true, true, true, false, true, true, false, true, true, true, true, true, true, true, false, true, true, true, true, true, false, false, false] from by kernel_rfl]
      exact st4_23_ a20 c20 a39 c39 w2 (btr hb hb2) (f20.below hb2) hf
  have st0_ : ∀ (g16 : Nat) (w1 : World), Below W.heap.size W w1 → Lit w1 g16 #[.int .u8 104, .int .u8 103] 5 W.heap.size → T 9 #[true, false, true, true, false, true, true, false, true, true, false, true, true, true, true, true, true, true, false, true, true, true, true, false, false, false, false] (A.put (some 16) (.slice (some ⟨g16, 0, none⟩) 2 2)) w1 := by
    intro g16 w1 hb f16
    refine HT _ _ _ _ [1, 4, 18, 23] (by rw [HR]; kernel_rfl) (by decide) ?_
    refine List.forall_mem_cons.2 ⟨?_, List.forall_mem_cons.2 ⟨?_, List.forall_mem_cons.2 ⟨?_, List.forall_mem_cons.2 ⟨?_, fun _ h => by cases h⟩⟩⟩⟩
    · refine M1 _ _ _ (by exact ep _) f16 (fun w2 hb2 hk2 hl2 => ⟨fun _ => HSB.out w2 (hb.trans hb2), ?_⟩)
      rw [show (#[true, false, true, true, false, true, true, false, true, true, false, true, true, true, true, true, true, true, false, true, true, true, true, false, false, false, false] : Array Bool).setIfInBounds 1 true = #[true, true, true, true, false, true, true, false, true, true, false, true, true, true, true, true, true, true, false, true, true, true, true, false, false, false, false] from by kernel_rfl]
      exact st0_1_ g16 w2 (hb.trans hb2) hl2
    · refine M4 _ _ _ (by rw [eval_put _ 16 19 _ (by decide)]; exact E19) (fun a20 c20 w2 hf hb2 => ⟨fun _ => HSB.out w2 (btr hb hb2), ?_⟩)
      rw [show (#[true, false, true, true, false, true, true, false, true, true, false, true, true, true, true, true, true, true, false, true, true, true, true, false, false, false, false] : Array Bool).setIfInBounds 4 true = #[true, false, true, true, true, true, true, false, true, true, false, true, true, true, true, true, true, true, false, true, true, true, true, false, false, false, false] from by kernel_rfl]
      exact st0_4_ g16 a20 c20 w2 (btr hb hb2) (f16.below hb2) hf
    · refine M18 _ _ _ (by rw [eval_put _ 16 28 _ (by decide)]; exact E28) (by rw [eval_put _ 16 31 _ (by decide)]; exact E31) (by rw [eval_put _ 16 33 _ (by decide)]; exact E33) (fun a34 c34 w2 hf hb2 => ⟨fun _ => HSB.out w2 (btr hb hb2), ?_⟩)
      rw [show (#[true, false, true, true, false, true, true, false, true, true, false, true, true, true, true, true, true, true, false, true, true, true, true, false, false, false, false] : Array Bool).setIfInBounds 18 true = #[true, false, true, true, false, true, true, false, true, true, false, true, true, true, true, true, true, true, true, true, true, true, true, false, false, false, false] from by kernel_rfl]
      exact st0_18_ g16 a34 c34 w2 (btr hb hb2) (f16.below hb2) hf
    · refine M23 _ _ _ (by rw [eval_put _ 16 38 _ (by decide)]; exact E38) (fun a39 c39 w2 hf hb2 => ⟨fun _ => HSB.out w2 (btr hb hb2), ?_⟩)
      rw [show (#[true, false, true, true, false, true, true, false, true, true, false, true, true, true, true, true, true, true, false, true, true, true, true, false, false, false, false] : Array Bool).setIfInBounds 23 true = #[true, false, true, true, false, true, true, false, true, true, false, true, true, true, true, true, true, true, false, true, true, true, true, true, false, false, false] from by kernel_rfl]
      exact st0_23_ g16 a39 c39 w2 (btr hb hb2) (f16.below hb2) hf
  have st : ∀  (w1 : World), Below W.heap.size W w1 → T 10 #[false, false, true, true, false, true, true, false, true, true, false, true, true, true, true, true, true, true, false, true, true, true, true, false, false, false, false] A w1 := by
    intro  w1 hb 
    refine HT _ _ _ _ [0, 4, 18, 23] (by rw [HR]; kernel_rfl) (by decide) ?_
    refine List.forall_mem_cons.2 ⟨?_, List.forall_mem_cons.2 ⟨?_, List.forall_mem_cons.2 ⟨?_, List.forall_mem_cons.2 ⟨?_, fun _ h => by cases h⟩⟩⟩⟩
    · refine M0 _ _ _ hb  (fun g16 w2 hf hb2 => ⟨fun _ => HSB.out w2 (btr hb hb2), ?_⟩)
      rw [show (#[false, false, true, true, false, true, true, false, true, true, false, true, true, true, true, true, true, true, false, true, true, true, true, false, false, false, false] : Array Bool).setIfInBounds 0 true = #[true, false, true, true, false, true, true, false, true, true, false, true, true, true, true, true, true, true, false, true, true, true, true, false, false, false, false] from by kernel_rfl]
      exact st0_ g16 w2 (btr hb hb2) hf
    · refine M4 _ _ _ (by exact E19) (fun a20 c20 w2 hf hb2 => ⟨fun _ => HSB.out w2 (btr hb hb2), ?_⟩)
      rw [show (#[false, false, true, true, false, true, true, false, true, true, false, true, true, true, true, true, true, true, false, true, true, true, true, false, false, false, false] : Array Bool).setIfInBounds 4 true = #[false, false, true, true, true, true, true, false, true, true, false, true, true, true, true, true, true, true, false, true, true, true, true, false, false, false, false] from by kernel_rfl]
      exact st4_ a20 c20 w2 (btr hb hb2) hf
    · refine M18 _ _ _ (by exact E28) (by exact E31) (by exact E33) (fun a34 c34 w2 hf hb2 => ⟨fun _ => HSB.out w2 (btr hb hb2), ?_⟩)
      rw [show (#[false, false, true, true, false, true, true, false, true, true, false, true, true, true, true, true, true, true, false, true, true, true, true, false, false, false, false] : Array Bool).setIfInBounds 18 true = #[false, false, true, true, false, true, true, false, true, true, false, true, true, true, true, true, true, true, true, true, true, true, true, false, false, false, false] from by kernel_rfl]
      exact st18_ a34 c34 w2 (btr hb hb2) hf
    · refine M23 _ _ _ (by exact E38) (fun a39 c39 w2 hf hb2 => ⟨fun _ => HSB.out w2 (btr hb hb2), ?_⟩)
      rw [show (#[false, false, true, true, false, true, true, false, true, true, false, true, true, true, true, true, true, true, false, true, true, true, true, false, false, false, false] : Array Bool).setIfInBounds 23 true = #[false, false, true, true, false, true, true, false, true, true, false, true, true, true, true, true, true, true, false, true, true, true, true, true, false, false, false] from by kernel_rfl]
      exact st23_ a39 c39 w2 (btr hb hb2) hf
  exact st _ (bdr (bre W))
end Go.Proofs.YtacfkhnajdneeaaDoor
/- Walks: a page's bytes refused; is a page full; are two alike. -/
namespace Go.Proofs.YtacfkhnajdneeaaDoor
open Go.RowKit

set_option maxRecDepth 10000 in
set_option maxHeartbeats 800000 in
theorem pbytes_arg (v : Value) (p : Pg) (w : World) (hv : PgAt w v p) (hk : p.kind = 0) :
    Calls Tryd.prog 77 #[v] w fun e w' => e = .returned (.tuple #[.slice none 0 0, .int .i64 1]) ∧ Below w.heap.size w w' := by
  obtain ⟨vd, rfl, hvd⟩ := hv
  obtain ⟨ad, cd, rfl, hm, hc, -, -⟩ := id hvd
  have hk1 : ((p.kind : Int) == 0) = true := by rw [hk]; rfl
  have hk2 : decide ((p.kind : Int) = 0) = true := by rw [hk]; rfl
  clear hvd hk hm hc
  go_enter Tryd.func77, Tryd.ntmps77
  go_wp2_with fail
  go_ret2
  exact ⟨rfl, bal (bre w) _⟩

set_option maxRecDepth 10000 in
set_option maxHeartbeats 800000 in
theorem pbytes_long (v : Value) (p : Pg) (w : World) (hv : PgAt w v p) (hk : p.kind ≠ 0) (hd : 491 < p.data.length) :
    Calls Tryd.prog 77 #[v] w fun e w' => e = .returned (.tuple #[.slice none 0 0, .int .i64 4]) ∧ Below w.heap.size w w' := by
  obtain ⟨vd, rfl, hvd⟩ := hv
  obtain ⟨ad, cd, rfl, hm, hc, -, -⟩ := id hvd
  have hk1 : ((p.kind : Int) == 0) = false := beq_false_of_ne (by omega)
  have hk2 : decide ((p.kind : Int) = 0) = false := decide_eq_false (by omega)
  have hd1 : (491 : Int) < p.data.length := by omega
  clear hvd hk hm hc hd
  go_enter Tryd.func77, Tryd.ntmps77
  go_wp2_with fail
  go_ret2
  exact ⟨rfl, bal (bre w) _⟩

def pgSame (a b : Pg) : Bool := decide (a.gen = b.gen) && (decide (a.serial = b.serial) && (decide (a.number = b.number) && (decide (a.kind = b.kind) && decide (a.data = b.data))))

theorem eqI (a b : Nat) : ((a : Int) == (b : Int)) = decide (a = b) := by
  by_cases h : a = b
  · subst h; simp
  · rw [decide_eq_false h]; exact beq_false_of_ne (by omega)

end Go.Proofs.YtacfkhnajdneeaaDoor
