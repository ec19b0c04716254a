/- Walks: a number's four bytes, and back; noughts. -/
import Derived.Test.YtejdlgfiiagcmaaDoorPg
import Derived.Test.YtejdlgfiiagcmaaDoorPreA
import Derived.BigQuiet
import Derived.Deep.QuietTactic
import Derived.Laws.BitsAllLaws
import Derived.Laws.BitsLemmas
namespace Go.Proofs.YtejdlgfiiagcmaaDoor
open Go.RowKit

def fourCells (n : Nat) : Array Value := #[.int .u8 ((n : Int) / 16777216), .int .u8 ((n : Int) / 65536 % 256), .int .u8 ((n : Int) / 256 % 256), .int .u8 ((n : Int) % 256)]
theorem four_lit (n : Nat) (hn : n < 4294967296) : (fourCells n).toList = (be4 n).map B8 := by
  have e : n / 16777216 % 256 = n / 16777216 := by omega
  unfold be4 fourCells
  simp only [List.map_cons, List.map_nil]
  rw [B8_ofNat _ (by omega), B8_ofNat _ (by omega), B8_ofNat _ (by omega), B8_ofNat _ (by omega), e]
  simp

set_option maxRecDepth 10000 in
set_option maxHeartbeats 400000 in
theorem four_any (n : Nat) (hn : n < 4294967296) (w : World) :
    Calls Tryd.prog 51 #[.int .u32 n] w fun e w' => ∃ v', e = .returned v' ∧ Own8 5 w.heap.size w' v' (be4 n) ∧ Below w.heap.size w w' := by
  go_enter Tryd.func51, Tryd.ntmps51
  go_wp2
  go_ret
  exact ⟨_, rfl, own8_lit _ _ _ _ _ (four_lit n hn) rfl (by simp [be4, maxLen]), (Below.refl _ _).alloc (Nat.le_refl _) _⟩

theorem or4 (x y z u : Nat) (hx : x < 256) (hy : y < 256) (hz : z < 256) (hu : u < 256) :
    bits .or .u32 (bits .or .u32 (bits .or .u32 ((x : Int) * 16777216) ((y : Int) * 65536)) ((z : Int) * 256)) (u : Int) = ((x * 16777216 + y * 65536 + z * 256 + u : Nat) : Int) := by
  rw [show (x : Int) * 16777216 = ((2 ^ 24 * x : Nat) : Int) by omega, show (y : Int) * 65536 = ((y * 65536 : Nat) : Int) by omega, show (z : Int) * 256 = ((z * 256 : Nat) : Int) by omega]
  rw [u32_or_nat _ _ (by omega) (by omega), ← Nat.two_pow_add_eq_or_of_lt (show y * 65536 < 2 ^ 24 by omega)]
  rw [show 2 ^ 24 * x + y * 65536 = 2 ^ 16 * (256 * x + y) by omega, u32_or_nat _ _ (by omega) (by omega), ← Nat.two_pow_add_eq_or_of_lt (show z * 256 < 2 ^ 16 by omega)]
  rw [show 2 ^ 16 * (256 * x + y) + z * 256 = 2 ^ 8 * (65536 * x + 256 * y + z) by omega, u32_or_nat _ _ (by omega) (by omega), ← Nat.two_pow_add_eq_or_of_lt (show u < 2 ^ 8 by omega)]
  congr 1
  omega

theorem ofInt_i64 (a : Nat) (ha : a < 9223372036854775808) : (BitVec.ofInt 64 (a : Int)).toNat = a := by
  rw [BitVec.ofInt_natCast, BitVec.toNat_ofNat]; exact Nat.mod_eq_of_lt (by omega)
theorem or2 (x y : Nat) (hx : x < 256) (hy : y < 256) : bits .or .i64 ((x : Int) * 256) (y : Int) = ((x * 256 + y : Nat) : Int) := by
  rw [show (x : Int) * 256 = ((2 ^ 8 * x : Nat) : Int) by omega]
  show IntKind.i64.wrap ((BitVec.ofInt 64 ((2 ^ 8 * x : Nat) : Int) ||| BitVec.ofInt 64 (y : Int)).toNat : Int) = _
  rw [BitVec.toNat_or, ofInt_i64 _ (by omega), ofInt_i64 _ (by omega), ← Nat.two_pow_add_eq_or_of_lt (show y < 2 ^ 8 by omega), IntKind.wrap_i64]
  omega

/-- one byte of bytes -/
theorem Bytes.byteAt {w : World} {a : Option Addr} {n c : Nat} {l : List UInt8} (h : Bytes w (.slice a n c) l) (i : Nat) (hi : i < l.length) :
    ∃ g o, a = some ⟨g, o, none⟩ ∧ w.cell? ⟨g, o + i, none⟩ = some (.int .u8 (l[i].toNat : Int)) := by
  obtain ⟨a', c', e, _, _, _, hr⟩ := h.lies
  cases e
  rcases hr with h0 | ⟨g, o, ha, hr⟩
  · have h0 := List.map_eq_nil_iff.1 h0
    subst h0
    simp at hi
  · refine ⟨g, o, ha, ?_⟩
    have := hr i (B8 l[i]) (by rw [List.getElem?_map, List.getElem?_eq_getElem hi]; rfl)
    exact this

set_option maxRecDepth 10000 in
set_option maxHeartbeats 800000 in
theorem num_any (v : Value) (a b c d : UInt8) (t : List UInt8) (w : World) (hv : Bytes w v (a :: b :: c :: d :: t)) :
    Calls Tryd.prog 56 #[v] w fun e w' => e = .returned (.int .u32 (val [a, b, c, d])) ∧ ∃ n, w' = w.drewN n := by
  obtain ⟨ad, cp, rfl, hm, hc, -, -⟩ := id hv
  obtain ⟨g, o, rfl, h0⟩ := hv.byteAt 0 (by simp)
  obtain ⟨g1, o1, e1, h1⟩ := hv.byteAt 1 (by simp)
  cases e1
  obtain ⟨g2, o2, e2, h2⟩ := hv.byteAt 2 (by simp)
  cases e2
  obtain ⟨g3, o3, e3, h3⟩ := hv.byteAt 3 (by simp)
  cases e3
  have ha := a.toNat_lt
  have hb := b.toNat_lt
  have hcc := c.toNat_lt
  have hd := d.toNat_lt
  simp only [List.getElem_cons_zero, List.getElem_cons_succ, Nat.add_zero] at h0 h1 h2 h3
  obtain ⟨len, hlen⟩ : ∃ len, len = (a :: b :: c :: d :: t).length := ⟨_, rfl⟩
  have h4 : (3 : Int) < len := by simp only [List.length_cons] at hlen; omega
  have h5 : (2 : Int) < len := by omega
  have h6 : (1 : Int) < len := by omega
  have h7 : (0 : Int) < len := by omega
  rw [← hlen]
  rw [val4]
  generalize a.toNat = x at *
  generalize b.toNat = y at *
  generalize c.toNat = z at *
  generalize d.toNat = u at *
  clear hv hlen hm hc
  go_enter Tryd.func56, Tryd.ntmps56
  go_wp2_with fail
  go_quiet (fail)
  go_wp2_with fail
  go_ret
  rw [← or4 x y z u (by omega) (by omega) (by omega) (by omega)]
  exact ⟨rfl, _, rfl⟩

set_option maxRecDepth 10000 in
set_option maxHeartbeats 800000 in
theorem trimR_any (v : Value) (l : List UInt8) (w : World) (hv : Bytes w v l) :
    Calls Tryd.prog 63 #[v, .int .u8 0] w fun e w' => ∃ v' m, e = .returned v' ∧ Bytes w v' (l.take m) ∧ m ≤ l.length ∧ noughts (l.drop m) ∧ w' = w := by
  obtain ⟨ad, cp, rfl, hm, hc, -, -⟩ := id hv
  unfold maxLen at hm
  have HV := Lib.hid hv
  clear hv
  go_enter Tryd.func63, Tryd.ntmps63
  go_wp2_with fail
  go_loopw [0] (fun s wr => ∃ m : Nat, s = .slice ad m cp ∧ m ≤ l.length ∧ Hid (noughts (l.drop m)) ∧ wr = w) (fun s _ => match s with | .slice _ m _ => m | _ => 0)
  case atStart => exact ⟨l.length, rfl, Nat.le_refl _, Lib.hid (by rw [List.drop_length]; intro b hb; cases hb), rfl⟩
  case round =>
    obtain ⟨m, rfl, hml, HZ, rfl⟩ := hrel
    have hpre : Bytes _ (.slice ad m cp) (l.take m) := HV.out.firsts m hml
    cases m with
    | zero =>
      go_wp2_with fail
      go_ret
      exact ⟨_, 0, rfl, hpre, Nat.zero_le _, HZ.out, rfl⟩
    | succ k =>
      have hkl : k < l.length := by omega
      have hlen : (l.take (k + 1)).length = k + 1 := by rw [List.length_take]; omega
      obtain ⟨g, o, rfl, h0⟩ := hpre.byteAt k (by omega)
      rw [List.getElem_take] at h0
      obtain ⟨b, hb⟩ : ∃ b, b = l[k] := ⟨_, rfl⟩
      rw [← hb] at h0
      have hk0 : (0 : Int) ≤ k := by omega
      have hk1 : (k : Int) < ((k + 1 : Nat) : Int) := by omega
      have hk2 : (0 : Int) < ((k + 1 : Nat) : Int) := by omega
      have hk3 : (k : Int) ≤ cp := by omega
      have hk4 : ((k + 1 : Nat) : Int) - 1 = k := by omega
      have HB := Lib.hid hb
      have HP := Lib.hid hpre
      clear hb hpre hlen
      by_cases hz : b.toNat = 0
      · have hzi : decide ((b.toNat : Int) = 0) = true := decide_eq_true (by omega)
        have hzb : ((b.toNat : Int) == 0) = true := by simp [hz]
        have HZ0 := Lib.hid hz
        clear hz
        go_wp2_with fail
        go_roundw
        case rel =>
          refine ⟨k, rfl, by omega, Lib.hid ?_, (by first | rfl | trivial)⟩
          rw [List.drop_eq_getElem_cons hkl]
          intro x hx
          rcases List.mem_cons.1 hx with h | h
          · rw [h, ← HB.out]; exact UInt8.toNat_inj.1 (by rw [HZ0.out]; rfl)
          · exact HZ.out x h
        case measure => simp
      · have hzi : decide ((b.toNat : Int) = 0) = false := decide_eq_false (by omega)
        have hzb : ((b.toNat : Int) == 0) = false := by simp; omega
        clear hz
        go_wp2_with fail
        go_ret
        exact ⟨_, k + 1, rfl, HP.out, by omega, HZ.out, rfl⟩

set_option maxRecDepth 10000 in
set_option maxHeartbeats 800000 in
theorem trimL_any (v : Value) (l : List UInt8) (w : World) (hv : Bytes w v l) :
    Calls Tryd.prog 62 #[v, .int .u8 0] w fun e w' => ∃ v' k, e = .returned v' ∧ Bytes w v' (l.drop k) ∧ noughts (l.take k) ∧ (∀ b t, l.drop k = b :: t → b ≠ 0) ∧ w' = w := by
  have HV := Lib.hid hv
  go_enter Tryd.func62, Tryd.ntmps62
  go_wp2_with fail
  go_loopw [0] (fun s wr => ∃ k : Nat, Hid (Bytes w s (l.drop k)) ∧ k ≤ l.length ∧ Hid (noughts (l.take k)) ∧ wr = w) (fun s _ => match s with | .slice _ m _ => m | _ => 0)
  case atStart => exact ⟨0, HV, Nat.zero_le _, Lib.hid (by intro b hb; cases hb), rfl⟩
  case round =>
    obtain ⟨k, HS, hkl, HZ, rfl⟩ := hrel
    obtain ⟨q, hq⟩ : ∃ q, q = l.drop k := ⟨_, rfl⟩
    have hs := HS.out
    rw [← hq] at hs
    have HQ := Lib.hid hq
    clear hq
    obtain ⟨ad, cp, e, hm, hc, -, -⟩ := id hs
    subst e
    unfold maxLen at hm
    cases q with
    | nil =>
      have HS2 := Lib.hid hs
      clear hs
      rw [List.length_nil]
      go_wp2_with fail
      go_ret
      exact ⟨.slice none 0 0, k, rfl, by rw [← HQ.out]; exact ⟨none, 0, rfl, by simp, Nat.le_refl _, fun _ => rfl, .inl rfl⟩, HZ.out, (fun b t h => by rw [← HQ.out] at h; cases h), rfl⟩
    | cons b t =>
      have hkl : k < l.length := by
        have := congrArg List.length HQ.out
        rw [List.length_cons, List.length_drop] at this
        omega
      have hlb : l[k] = b := by
        have h := HQ.out
        rw [List.drop_eq_getElem_cons hkl] at h
        exact (List.cons.inj h).1.symm
      have hlt : l.drop (k + 1) = t := by
        have h := HQ.out
        rw [List.drop_eq_getElem_cons hkl] at h
        exact (List.cons.inj h).2.symm
      obtain ⟨g, o, rfl, h0⟩ := hs.byteAt 0 (by simp)
      simp only [List.getElem_cons_zero, Nat.add_zero] at h0
      have hv2 := Bytes.suffix hs 1 (by simp)
      rw [List.length_cons] at hm hc ⊢
      have hv3 := hlt.symm.subst (motive := fun z => Bytes _ (.slice (if cp = 1 then some ⟨g, o, none⟩ else some ⟨g, o + 1, none⟩) t.length (cp - 1)) z) hv2
      have HV3 := Lib.hid hv3
      have HLB := Lib.hid hlb
      have HS2 := Lib.hid hs
      have hk2 : (0 : Int) < ((t.length + 1 : Nat) : Int) := by omega
      clear hs hv2 hv3 hlb hlt
      by_cases hz : b.toNat = 0
      · have hzi : decide ((b.toNat : Int) = 0) = true := decide_eq_true (by omega)
        have hzb : ((b.toNat : Int) == 0) = true := by simp [hz]
        have HZ0 := Lib.hid hz
        clear hz
        go_wp2_with fail
        go_roundw
        case rel =>
          refine ⟨k + 1, HV3, by omega, Lib.hid ?_, (by first | rfl | trivial)⟩
          rw [List.take_succ_eq_append_getElem hkl]
          intro x hx
          rcases List.mem_append.1 hx with h | h
          · exact HZ.out x h
          · rw [List.mem_singleton.1 h, HLB.out]; exact UInt8.toNat_inj.1 (by rw [HZ0.out]; rfl)
        case measure => first | (simp; done) | (simp; omega)
      · have hzi : decide ((b.toNat : Int) = 0) = false := decide_eq_false (by omega)
        have hzb : ((b.toNat : Int) == 0) = false := by simp; omega
        have HZ0 := Lib.hid hz
        clear hz
        have hne : ((t.length + 1 : Nat) : Int) ≠ 0 := by omega
        go_wp2_with fail
        go_ret
        refine ⟨_, k, rfl, by rw [← HQ.out]; exact HS2.out, HZ.out, fun b' t' h => ?_, rfl⟩
        rw [← HQ.out] at h
        cases h
        intro h0
        exact HZ0.out (by rw [h0]; rfl)

set_option maxRecDepth 10000 in
set_option maxHeartbeats 800000 in
theorem blank_any (v : Value) (l : List UInt8) (w : World) (hv : Bytes w v l) :
    Calls Tryd.prog 54 #[v] w fun e w' => e = .returned (.bool (decide (noughts l))) ∧ ∃ n, w' = w.drewN n := by
  have HV := Lib.hid hv
  obtain ⟨ad, cp, rfl, hm, hc, -, -⟩ := id hv
  unfold maxLen at hm
  clear hv
  have htrim : Calls Tryd.prog 61 #[.slice ad l.length cp, .string ⟨#[0]⟩] w fun e w' => (∃ v' q, e = .returned v' ∧ Bytes w v' q ∧ (q = [] ↔ noughts l)) ∧ ∃ n, w' = w.drewN n := by
    by_cases hl : l.length = 0
    · have hnil : l = [] := List.length_eq_zero_iff.1 hl
      subst hnil
      rw [List.length_nil]
      go_enter Tryd.func61, Tryd.ntmps61
      go_wp2_with fail
      go_ret
      exact ⟨⟨.slice none 0 0, [], rfl, ⟨none, 0, rfl, by simp, Nat.le_refl _, fun _ => rfl, .inl rfl⟩, by simp [noughts]⟩, 0, rfl⟩
    · have hl0 : (0 : Int) < l.length := by omega
      have hli : ((l.length : Int) == 0) = false := beq_false_of_ne (by omega)
      have hld : decide ((l.length : Int) = 0) = false := decide_eq_false (by omega)
      clear hl
      go_enter Tryd.func61, Tryd.ntmps61
      go_wp2_with fail
      refine region_anyZ (z := 6) (S := fun _ => True) (by kernel_rfl) ?_
      refine anyZ_begin (fun hcl0 => ?_)
      refine anyZ_held (by exact trivial) (fun hHeld => ?_)
      -- 0: Op.move (Operand.tmp 0)
      refine' anyZ_pure (i := 0) (v := _) rfl (by rfl) (by kernel_rfl) (by kernel_rfl) (by kernel_rfl) hcl0 (fun _ _ _ h => h) (Or.inl ⟨by rfl, fun w _ => ?h1⟩) (fun _ => hHeld) (fun hcl1 => ?r1)
      case h1 => (simp only [List.getElem_toArray, List.getElem_cons_zero]; first | (go_simp; with_reducible rfl) | (go_simp; done) | rfl)
      simp only [List.getElem_toArray, List.getElem_cons_zero, Act.put, List.setIfInBounds_toArray, List.set_cons_zero, List.set_cons_succ]
      -- 1: Op.move (Operand.tmp 1)
      refine' anyZ_pure (i := 1) (v := _) rfl (by rfl) (by kernel_rfl) (by kernel_rfl) (by kernel_rfl) hcl1 (fun _ _ _ h => h) (Or.inl ⟨by rfl, fun w _ => ?h2⟩) (fun _ => hHeld) (fun hcl2 => ?r2)
      case h2 => (simp only [List.getElem_toArray, List.getElem_cons_succ, List.getElem_cons_zero]; first | (go_simp; with_reducible rfl) | (go_simp; done) | rfl)
      simp only [List.getElem_toArray, List.getElem_cons_succ, List.getElem_cons_zero, Act.put, List.setIfInBounds_toArray, List.set_cons_zero, List.set_cons_succ]
      -- 2: Op.index 9 (Operand.tmp 22) (Operand.const (Value.int IntKin
      refine' anyZ_pure (i := 2) (v := _) rfl (by rfl) (by kernel_rfl) (by kernel_rfl) (by kernel_rfl) hcl2 (fun _ _ _ h => h) (Or.inl ⟨by rfl, fun w _ => ?h3⟩) (fun _ => hHeld) (fun hcl3 => ?r3)
      case h3 => (simp only [List.getElem_toArray, List.getElem_cons_succ, List.getElem_cons_zero]; first | (go_simp; with_reducible rfl) | (go_simp; done) | rfl)
      simp only [List.getElem_toArray, List.getElem_cons_succ, List.getElem_cons_zero, Act.put, List.setIfInBounds_toArray, List.set_cons_zero, List.set_cons_succ]
      -- 4: Op.move (Operand.tmp 1)
      refine' anyZ_pure (i := 4) (v := _) rfl (by rfl) (by kernel_rfl) (by kernel_rfl) (by kernel_rfl) hcl3 (fun _ _ _ h => h) (Or.inl ⟨by rfl, fun w _ => ?h4⟩) (fun _ => hHeld) (fun hcl4 => ?r4)
      case h4 => (simp only [List.getElem_toArray, List.getElem_cons_succ, List.getElem_cons_zero]; first | (go_simp; with_reducible rfl) | (go_simp; done) | rfl)
      simp only [List.getElem_toArray, List.getElem_cons_succ, List.getElem_cons_zero, Act.put, List.setIfInBounds_toArray, List.set_cons_zero, List.set_cons_succ]
      -- 5: Op.index 9 (Operand.tmp 25) (Operand.const (Value.int IntKin
      refine' anyZ_pure (i := 5) (v := _) rfl (by rfl) (by kernel_rfl) (by kernel_rfl) (by kernel_rfl) hcl4 (fun _ _ _ h => h) (Or.inl ⟨by rfl, fun w _ => ?h5⟩) (fun _ => hHeld) (fun hcl5 => ?r5)
      case h5 => (simp only [List.getElem_toArray, List.getElem_cons_succ, List.getElem_cons_zero]; first | (go_simp; with_reducible rfl) | (go_simp; done) | rfl)
      simp only [List.getElem_toArray, List.getElem_cons_succ, List.getElem_cons_zero, Act.put, List.setIfInBounds_toArray, List.set_cons_zero, List.set_cons_succ]
      -- 3: Op.call { callee := Callee.value (Operand.func 42), args := 
      refine anyZ_one (i := 3) hcl5 (by kernel_rfl) (by simp only [List.getElem?_toArray, List.getElem?_cons_succ, List.getElem?_cons_zero]; rfl) (by rfl) (fun hcl6 K hK => ?_)
      go_simp
      refine (trimR_any _ l _ (HV.out.below (bdr (bre _)))).mono ?_
      rintro e w1 ⟨v1, m, rfl, hy1, hm1, hz1, rfl⟩
      refine hK _ _ (fun _ => ?_) ?_
      · exact trivial
      clear hK K hHeld
      try simp only [Act.put, List.setIfInBounds_toArray, List.set_cons_zero, List.set_cons_succ]
      refine anyZ_chain_at (by kernel_rfl) ?_
      simp only [List.drop_succ_cons, List.drop_zero]
      go_wp2_with fail
      refine (trimL_any _ _ _ hy1).mono ?_
      rintro e w2 ⟨v2, k, rfl, hy2, hz2, hh2, rfl⟩
      go_wp2_with fail
      go_ret
      refine ⟨⟨v2, (l.take m).drop k, rfl, hy2, ?_⟩, 1, rfl⟩
      constructor
      · intro h b hb
        rw [← List.take_append_drop m l] at hb
        rcases List.mem_append.1 hb with h1 | h1
        · rw [← List.take_append_drop k (l.take m), h, List.append_nil] at h1
          exact hz2 b h1
        · exact hz1 b h1
      · intro h
        cases hq : (l.take m).drop k with
        | nil => rfl
        | cons b t => exact absurd (h b (List.mem_of_mem_take (List.mem_of_mem_drop (by rw [hq]; exact List.mem_cons_self)))) (hh2 b t hq)
  have HT := Lib.hid htrim
  clear htrim
  go_enter Tryd.func54, Tryd.ntmps54
  go_wp2_with fail
  refine HT.out.mono ?_
  rintro e w1 ⟨⟨v', q, rfl, hy, hq⟩, n, rfl⟩
  obtain ⟨a', c', rfl, -⟩ := id hy
  cases q with
  | nil =>
    have hd : decide (noughts l) = true := decide_eq_true (hq.1 rfl)
    obtain ⟨z, hz⟩ : ∃ z, z = ([] : List UInt8).length := ⟨_, rfl⟩
    rw [← hz]
    have h1 : ((z : Int) == 0) = true := by rw [hz]; rfl
    have h2 : decide ((z : Int) = 0) = true := by rw [hz]; rfl
    clear hy hq hz
    go_wp2_with fail
    go_ret
    rw [hd]
    exact ⟨rfl, n, rfl⟩
  | cons b t =>
    have hd : decide (noughts l) = false := decide_eq_false (fun h => by cases hq.2 h)
    have h1 : (((b :: t).length : Int) == 0) = false := by simp; omega
    have h2 : decide (((b :: t).length : Int) = 0) = false := decide_eq_false (by simp only [List.length_cons]; omega)
    clear hy hq
    generalize (b :: t).length = z at *
    go_wp2_with fail
    go_ret
    rw [hd]
    exact ⟨rfl, n, rfl⟩
end Go.Proofs.YtejdlgfiiagcmaaDoor
