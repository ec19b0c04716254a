/- Walks: names; whether an operation may be. -/
import Derived.Test.YtminfdlhbecnhaaGreatDoorOpWords
import Derived.Test.YtminfdlhbecnhaaGreatDoorOrdG
import Derived.Laws.BitsLemmas
import Derived.Deep.QuietTactic
import Derived.BigQuiet
import Derived.Deep.RegionHeld3
namespace Go.Proofs.YtminfdlhbecnhaaGreatDoor
open Go.RowKit

theorem anyZ_oneSkip {P : Program} {ops : Array Oper} {Q : Exit → Act → World → Prop} {md : Region.Mode} {S : World → Prop} {i z : Nat} {oi : Oper} {fuel : Nat} {listed : Array Bool} {a : Act} {w : World} (hcl : Closed md ops listed) (hr : Region.ready md ops listed = [i]) (hi : ops[i]? = some oi) (hg : Region.wanted oi (yielded ops a.tmps) = false)
    (hS : (listed.setIfInBounds i true).getD z true = false → S w) (h : Closed md ops (listed.setIfInBounds i true) → AnyZ P md ops Q S z fuel (listed.setIfInBounds i true) (a.put oi.dst undef) w) :
    AnyZ P md ops Q S z (fuel + 1) listed a w := by
  refine ⟨fun h0 => (by rw [hr] at h0; cases h0), fun j hj => ?_⟩
  rw [hr] at hj
  have hji : j = i := by simpa using hj
  subst hji
  unfold wpOp
  simp only [hi]
  rw [if_neg (by rw [hg]; decide)]
  exact ⟨hS, h (hcl.set (by rw [hr]; simp))⟩

theorem i64_and1 (n : Int) : bits .and .i64 n 1 = n % 2 := by
  have h1 : (BitVec.ofInt 64 1).toNat = 2 ^ 1 - 1 := by decide
  have key : (BitVec.ofInt 64 n &&& BitVec.ofInt 64 1).toNat = (n % ((2 ^ 64 : Nat) : Int)).toNat % 2 ^ 1 := by
    rw [BitVec.toNat_and, BitVec.toNat_ofInt, h1, Nat.and_two_pow_sub_one_eq_mod]
  show IntKind.i64.wrap ((BitVec.ofInt 64 n &&& BitVec.ofInt 64 1).toNat : Nat) = n % 2
  rw [key, IntKind.wrap_i64]
  omega

def mk8 (l : List UInt8) : ByteArray := ⟨l.toArray⟩
theorem strV_mk (l : List UInt8) : strV l = .string (mk8 l) := rfl

set_option maxRecDepth 100000 in
theorem twords_any (w : World) (hsp : Sp w) : Calls Tryz.prog 67 #[] w fun e w' => e = .returned (.slice (some ⟨w.heap.size, 0, none⟩) 14 14) ∧ w' = w.alloc (.cells (tokWords.map strV).toArray 9) := by
  go_enter Tryz.func67, Tryz.ntmps67
  go_wp2_with fail
  refine (fields_is _ tokWords 14 w hsp (by kernel_rfl) rfl (of_decide_eq_true (by kernel_rfl)) (by kernel_rfl)).mono ?_
  rintro e w1 ⟨rfl, rfl⟩
  go_wp2_with fail
  go_ret
  exact ⟨rfl, rfl⟩

def isWordB (s : ByteArray) : Bool := Lib.containsS (tokWords.map mk8) s
def nameB (s : ByteArray) : Bool := shapedB s.data.toList && !isWordB s

set_option maxRecDepth 100000 in
theorem isword_any (s : ByteArray) (w : World) (hsp : Sp w) : Calls Tryz.prog 47 #[.string s] w fun e w' => e = .returned (.bool (isWordB s)) ∧ Below w.heap.size w w' := by
  go_enter Tryz.func47, Tryz.ntmps47
  go_wp2_with fail
  refine (twords_any w hsp).mono ?_
  rintro e w1 ⟨rfl, rfl⟩
  have hb := bal (bre w) (.cells (tokWords.map strV).toArray 9)
  have hrow := heap_alloc_new w (.cells (tokWords.map strV).toArray 9)
  generalize w.alloc (.cells (tokWords.map strV).toArray 9) = W at *
  have hc : ∀ j, j < (tokWords.map mk8).length → W.cell? ⟨w.heap.size, 0 + j, none⟩ = some (.string ((tokWords.map mk8).getD j ByteArray.empty)) := fun j hj => by
    rw [List.length_map] at hj
    rw [Nat.zero_add, strs_cell hrow j hj, strV_mk]
    simp [List.getD_eq_getElem?_getD, List.getElem?_eq_getElem hj]
  have HB := Lib.hid hb
  have HC := Lib.hid hc
  clear hb hrow hc hsp
  go_wp2_with fail
  refine (contains_any w.heap.size 14 (tokWords.map mk8) s W rfl (by decide) HC.out).mono ?_
  rintro e w2 ⟨rfl, hw⟩
  have hw' := hw.symm
  subst hw'
  clear hw
  go_wp2_with fail
  go_ret
  exact ⟨rfl, HB.out⟩

set_option maxRecDepth 10000 in
theorem isname_any (s : ByteArray) (w : World) (hs : s.size ≤ 9223372036854775807) (hsp : Sp w) : Calls Tryz.prog 23 #[.string s] w fun e w' => e = .returned (.bool (nameB s)) ∧ Below w.heap.size w w' := by
  go_enter Tryz.func23, Tryz.ntmps23
  go_wp2_with fail
  refine (shaped_any s w hs).mono ?_
  rintro e w1 ⟨rfl, hw⟩
  have hw' := hw.symm
  subst hw'
  clear hw
  cases h : shapedB s.data.toList with
  | false =>
    have hn : Hid (nameB s = false) := Lib.hid (by unfold nameB; rw [h]; rfl)
    clear h
    go_wp2_with fail
    go_ret
    exact ⟨by rw [hn.out]; rfl, bre w⟩
  | true =>
    have hn : Hid (nameB s = !isWordB s) := Lib.hid (by unfold nameB; rw [h]; rfl)
    clear h
    go_wp2_with fail
    refine (isword_any s w hsp).mono ?_
    rintro e w2 ⟨rfl, hb⟩
    have HB := Lib.hid hb
    clear hb
    go_wp2_with fail
    go_ret
    exact ⟨by rw [hn.out]; rfl, HB.out⟩

set_option maxRecDepth 10000 in
theorem is_any (m k : Nat) (hm : m < 2048) (hk : k ≤ 14) (w : World) : Calls Tryz.prog 22 #[.int .i64 m, .int .u8 k] w fun e w' => e = .returned (.bool (m.testBit k)) ∧ w' = w := by
  obtain ⟨t, ht⟩ : ∃ t, t = m.testBit k := ⟨_, rfl⟩
  rw [← ht]
  have h1 : (m : Int) / 2 ^ k = ((m / 2 ^ k : Nat) : Int) := by simp
  have h2 := i64_and1 ((m / 2 ^ k : Nat) : Int)
  rw [Nat.testBit_eq_decide_div_mod_eq] at ht
  obtain ⟨x, hx⟩ : ∃ x, x = m / 2 ^ k := ⟨_, rfl⟩
  rw [← hx] at h1 h2 ht
  have hx2 : x ≤ 2048 := by rw [hx]; exact Nat.le_trans (Nat.div_le_self _ _) (by omega)
  have h3 : ((x : Int) % 2 == 1) = t := by
    rw [ht, Bool.eq_iff_iff, decide_eq_true_iff, beq_iff_eq]; omega
  have h4 : decide ((x : Int) % 2 = 1) = t := h3
  have hmin : min k 64 = k := by omega
  clear hx ht
  go_enter Tryz.func22, Tryz.ntmps22
  go_wp2_with fail
  go_ret
  exact ⟨rfl, rfl⟩

/-- may an operation be? -/
def rightB (k a b : Nat) (nm : ByteArray) : Bool :=
  decide (1 ≤ k) && (decide (k ≤ 14) && ((decide (a ≠ 0) == decide (k ≠ 10)) && ((decide (b ≠ 0) == (288 : Nat).testBit k) && ((decide (nm.size ≠ 0) == (1374 : Nat).testBit k) && (decide (nm.size = 0) || nameB nm)))))

set_option linter.unusedSimpArgs false in
set_option maxRecDepth 20000 in
set_option maxHeartbeats 3200000 in
theorem right_any (k a b : Nat) (nm : ByteArray) (hk : k < 256) (hs : nm.size ≤ 9223372036854775807) (w : World) (hsp : Sp w) :
    Calls Tryz.prog 9 #[.agg #[.int .u8 k, .int .u64 a, .int .u64 b, .string nm]] w fun e w' => e = .returned (.bool (rightB k a b nm)) ∧ Below w.heap.size w w' := by
  obtain ⟨x, hx⟩ : ∃ x, x = rightB k a b nm := ⟨_, rfl⟩
  rw [← hx]
  unfold rightB at hx
  have HX := Lib.hid hx
  clear hx
  go_enter Tryz.func9, Tryz.ntmps9
  go_upto_region 1 with fail
  have hb0 := bal (bre w) (.cells #[.int .u8 k, .int .u64 a, .int .u64 b, .string nm] 25)
  have hr0 := heap_alloc_new w (.cells #[.int .u8 k, .int .u64 a, .int .u64 b, .string nm] 25)
  generalize w.alloc (.cells #[.int .u8 k, .int .u64 a, .int .u64 b, .string nm] 25) = W at *
  obtain ⟨n1, hn1⟩ : ∃ n, n = w.heap.size := ⟨_, rfl⟩
  rw [← hn1] at hr0 ⊢
  have hlt := (Array.getElem?_eq_some_iff.1 hr0).1
  have c0 := cell_of_row W n1 0 _ _ _ hr0
  have c1 := cell_of_row W n1 1 _ _ _ hr0
  have c2 := cell_of_row W n1 2 _ _ _ hr0
  have c3 := cell_of_row W n1 3 _ _ _ hr0
  have HB0 := Lib.hid hb0
  have HSB : Hid (∀ w', Below W.heap.size W w' → (w'.cell? ⟨n1, 0, none⟩ = some (.int .u8 k) ∧ w'.cell? ⟨n1, 1, none⟩ = some (.int .u64 a) ∧ w'.cell? ⟨n1, 2, none⟩ = some (.int .u64 b) ∧ w'.cell? ⟨n1, 3, none⟩ = some (.string nm))) := Lib.hid (fun w' hb =>
    ⟨(hb.cell (p := ⟨n1, 0, none⟩) hlt).trans c0, (hb.cell (p := ⟨n1, 1, none⟩) hlt).trans c1, (hb.cell (p := ⟨n1, 2, none⟩) hlt).trans c2, (hb.cell (p := ⟨n1, 3, none⟩) hlt).trans c3⟩)
  have HSP := Lib.hid (hsp.below hb0)
  clear hb0 hr0 hn1 hlt hsp
  by_cases h1 : 1 ≤ k
  rotate_left
  · have hd : decide ((k : Int) < 1) = true := decide_eq_true (by omega)
    have hr : x = false := by rw [HX.out, decide_eq_false h1]; rfl
    subst hr
    clear h1
    go_wp2_with fail
    go_ret
    exact ⟨rfl, HB0.out⟩
  have hd1 : decide ((k : Int) < 1) = false := decide_eq_false (by omega)
  by_cases h14 : k ≤ 14
  rotate_left
  · have hd : decide ((14 : Int) < k) = true := decide_eq_true (by omega)
    have hr : x = false := by rw [HX.out, decide_eq_false h14]; simp
    subst hr
    clear h1 h14
    go_wp2_with fail
    go_ret
    exact ⟨rfl, HB0.out⟩
  have hd2 : decide ((14 : Int) < k) = false := decide_eq_false (by omega)
  go_upto_region 3 with fail
  have hx2 := HX.out
  rw [decide_eq_true h1, decide_eq_true h14, Bool.true_and, Bool.true_and] at hx2
  have HX2 := Lib.hid hx2
  have HIS1 : Hid (∀ w', Calls Tryz.prog 22 #[.int .i64 288, .int .u8 k] w' fun e w'' => e = .returned (.bool ((288 : Nat).testBit k)) ∧ w'' = w') := Lib.hid (fun w' => is_any 288 k (by decide) h14 w')
  have HIS2 : Hid (∀ w', Calls Tryz.prog 22 #[.int .i64 1374, .int .u8 k] w' fun e w'' => e = .returned (.bool ((1374 : Nat).testBit k)) ∧ w'' = w') := Lib.hid (fun w' => is_any 1374 k (by decide) h14 w')
  have HNM : Hid (∀ w', Below W.heap.size W w' → Calls Tryz.prog 23 #[.string nm] w' fun e w'' => e = .returned (.bool (nameB nm)) ∧ Below w'.heap.size w' w'') := Lib.hid (fun w' hb => isname_any nm w' hs (HSP.out.below hb))
  have a1 : ((a : Int) != 0) = decide (a ≠ 0) := by rw [Bool.eq_iff_iff, decide_eq_true_iff, bne_iff_ne]; omega
  have a2 : decide ((a : Int) = 0) = !decide (a ≠ 0) := by rw [Bool.eq_iff_iff]; simp
  have a3 : ((a : Int) == 0) = !decide (a ≠ 0) := a2
  have k1 : ((k : Int) != 10) = decide (k ≠ 10) := by rw [Bool.eq_iff_iff, decide_eq_true_iff, bne_iff_ne]; omega
  have k2 : decide ((k : Int) = 10) = !decide (k ≠ 10) := by rw [Bool.eq_iff_iff]; simp; omega
  have k3 : ((k : Int) == 10) = !decide (k ≠ 10) := k2
  have b1 : ((b : Int) != 0) = decide (b ≠ 0) := by rw [Bool.eq_iff_iff, decide_eq_true_iff, bne_iff_ne]; omega
  have b2 : decide ((b : Int) = 0) = !decide (b ≠ 0) := by rw [Bool.eq_iff_iff]; simp
  have b3 : ((b : Int) == 0) = !decide (b ≠ 0) := b2
  have n2 := str_isEmpty nm
  have n3 : decide (nm.size = 0) = !decide (nm.size ≠ 0) := by rw [Bool.eq_iff_iff]; simp
  rw [n3] at n2
  rw [n3] at hx2
  clear HX HX2 n3 h1 h14 hs c0 c1 c2 c3
  generalize decide (a ≠ 0) = A at *
  generalize decide (k ≠ 10) = K at *
  generalize decide (b ≠ 0) = B at *
  generalize decide (nm.size ≠ 0) = N at *
  generalize (288 : Nat).testBit k = T1 at *
  generalize (1374 : Nat).testBit k = T2 at *
  cases p1 : (A == K) with
  | false =>
    have q1 : decide (A = K) = false := by rw [← p1]; cases A <;> cases K <;> rfl
    rw [p1] at hx2
    have hr : x = false := by rw [hx2]; rfl
    subst hr
    clear hx2
    refine region_anyZ (z := 35) (S := fun w' => (w'.cell? ⟨n1, 0, none⟩ = some (.int .u8 k) ∧ w'.cell? ⟨n1, 1, none⟩ = some (.int .u64 a) ∧ w'.cell? ⟨n1, 2, none⟩ = some (.int .u64 b) ∧ w'.cell? ⟨n1, 3, none⟩ = some (.string nm))) (by kernel_rfl) ?_
    refine anyZ_begin (fun hcl0 => ?_)
    refine anyZ_held (by exact HSB.out _ (bdr (bre W))) (fun hHeld => ?_)
    -- 0: Op.fieldAddr 36 (Operand.tmp 1) 1
    refine' anyZ_pure (i := 0) (v := _) rfl (by rfl) (by kernel_rfl) (by kernel_rfl) (by kernel_rfl) hcl0 (fun _ _ _ h => h) (Or.inl ⟨by rfl, fun w _ => ?hp11⟩) (fun _ => hHeld) (fun hcl1 => ?rp11)
    case hp11 => (simp only [List.getElem_toArray, List.getElem_cons_zero]; first | (go_simp; with_reducible rfl) | (go_simp; done) | rfl)
    simp only [List.getElem_toArray, List.getElem_cons_zero, Act.put, List.setIfInBounds_toArray, List.set_cons_zero, List.set_cons_succ]
    -- 1: Op.load 32 (Operand.tmp 11)
    refine' anyZ_take (i := 1) (v := _) rfl (by rfl) (by kernel_rfl) (by kernel_rfl) (by kernel_rfl) hcl1 16 (by kernel_rfl) (by kernel_rfl) (fun _ _ _ h => h) (Or.inl ⟨by rfl, fun w hSw => ?hp12⟩) hHeld (fun hcl2 => ?rp12)
    case hp12 => (simp only [List.getElem_toArray, List.getElem_cons_succ, List.getElem_cons_zero]; obtain ⟨hS1, hS2, hS3, hS4⟩ := hSw; first | (go_simp; with_reducible rfl) | (go_simp; done) | rfl)
    simp only [List.getElem_toArray, List.getElem_cons_succ, List.getElem_cons_zero, Act.put, List.setIfInBounds_toArray, List.set_cons_zero, List.set_cons_succ]
    -- 2: Op.binOp BinOp.neq 32 (Operand.tmp 12) (Operand.const (Value
    refine' anyZ_pure (i := 2) (v := _) rfl (by rfl) (by kernel_rfl) (by kernel_rfl) (by kernel_rfl) hcl2 (fun _ _ _ h => h) (Or.inl ⟨by rfl, fun w _ => ?hp13⟩) (fun _ => hHeld) (fun hcl3 => ?rp13)
    case hp13 => (simp only [List.getElem_toArray, List.getElem_cons_succ, List.getElem_cons_zero]; first | (go_simp; with_reducible rfl) | (go_simp; done) | rfl)
    simp only [List.getElem_toArray, List.getElem_cons_succ, List.getElem_cons_zero, Act.put, List.setIfInBounds_toArray, List.set_cons_zero, List.set_cons_succ]
    -- 3: Op.fieldAddr 36 (Operand.tmp 1) 0
    refine' anyZ_pure (i := 3) (v := _) rfl (by rfl) (by kernel_rfl) (by kernel_rfl) (by kernel_rfl) hcl3 (fun _ _ _ h => h) (Or.inl ⟨by rfl, fun w _ => ?hp14⟩) (fun _ => hHeld) (fun hcl4 => ?rp14)
    case hp14 => (simp only [List.getElem_toArray, List.getElem_cons_succ, List.getElem_cons_zero]; first | (go_simp; with_reducible rfl) | (go_simp; done) | rfl)
    simp only [List.getElem_toArray, List.getElem_cons_succ, List.getElem_cons_zero, Act.put, List.setIfInBounds_toArray, List.set_cons_zero, List.set_cons_succ]
    -- 4: Op.load 5 (Operand.tmp 14)
    refine' anyZ_take (i := 4) (v := _) rfl (by rfl) (by kernel_rfl) (by kernel_rfl) (by kernel_rfl) hcl4 16 (by kernel_rfl) (by kernel_rfl) (fun _ _ _ h => h) (Or.inl ⟨by rfl, fun w hSw => ?hp15⟩) hHeld (fun hcl5 => ?rp15)
    case hp15 => (simp only [List.getElem_toArray, List.getElem_cons_succ, List.getElem_cons_zero]; obtain ⟨hS1, hS2, hS3, hS4⟩ := hSw; first | (go_simp; with_reducible rfl) | (go_simp; done) | rfl)
    simp only [List.getElem_toArray, List.getElem_cons_succ, List.getElem_cons_zero, Act.put, List.setIfInBounds_toArray, List.set_cons_zero, List.set_cons_succ]
    -- 5: Op.binOp BinOp.neq 5 (Operand.tmp 15) (Operand.const (Value.
    refine' anyZ_pure (i := 5) (v := _) rfl (by rfl) (by kernel_rfl) (by kernel_rfl) (by kernel_rfl) hcl5 (fun _ _ _ h => h) (Or.inl ⟨by rfl, fun w _ => ?hp16⟩) (fun _ => hHeld) (fun hcl6 => ?rp16)
    case hp16 => (simp only [List.getElem_toArray, List.getElem_cons_succ, List.getElem_cons_zero]; first | (go_simp; with_reducible rfl) | (go_simp; done) | rfl)
    simp only [List.getElem_toArray, List.getElem_cons_succ, List.getElem_cons_zero, Act.put, List.setIfInBounds_toArray, List.set_cons_zero, List.set_cons_succ]
    -- 6: Op.binOp BinOp.eql 4 (Operand.tmp 13) (Operand.tmp 16) 4
    refine' anyZ_pure (i := 6) (v := _) rfl (by rfl) (by kernel_rfl) (by kernel_rfl) (by kernel_rfl) hcl6 (fun _ _ _ h => h) (Or.inl ⟨by rfl, fun w _ => ?hp17⟩) (fun _ => hHeld) (fun hcl7 => ?rp17)
    case hp17 => (simp only [List.getElem_toArray, List.getElem_cons_succ, List.getElem_cons_zero]; first | (go_simp; with_reducible rfl) | (go_simp; done) | rfl)
    simp only [List.getElem_toArray, List.getElem_cons_succ, List.getElem_cons_zero, Act.put, List.setIfInBounds_toArray, List.set_cons_zero, List.set_cons_succ]
    -- 7: Op.move (Operand.tmp 17)
    refine' anyZ_pure (i := 7) (v := _) rfl (by rfl) (by kernel_rfl) (by kernel_rfl) (by kernel_rfl) hcl7 (fun _ _ _ h => h) (Or.inl ⟨by rfl, fun w _ => ?hp18⟩) (fun _ => hHeld) (fun hcl8 => ?rp18)
    case hp18 => (simp only [List.getElem_toArray, List.getElem_cons_succ, List.getElem_cons_zero]; first | (go_simp; with_reducible rfl) | (go_simp; done) | rfl)
    simp only [List.getElem_toArray, List.getElem_cons_succ, List.getElem_cons_zero, Act.put, List.setIfInBounds_toArray, List.set_cons_zero, List.set_cons_succ]
    -- 8 (not wanted): Op.fieldAddr 36 (Operand.tmp 1) 2
    refine' anyZ_pure (i := 8) (v := undef) rfl (by rfl) (by kernel_rfl) (by kernel_rfl) (by kernel_rfl) hcl8 (fun _ _ _ h => h) (Or.inr ⟨by rfl, rfl⟩) (fun _ => hHeld) (fun hcl9 => ?rp19)
    simp only [Act.put, List.setIfInBounds_toArray, List.set_cons_zero, List.set_cons_succ]
    -- 9 (not wanted): Op.load 32 (Operand.tmp 19)
    refine' anyZ_pure (i := 9) (v := undef) rfl (by rfl) (by kernel_rfl) (by kernel_rfl) (by kernel_rfl) hcl9 (fun _ _ _ h => h) (Or.inr ⟨by rfl, rfl⟩) (fun _ => hHeld) (fun hcl10 => ?rp110)
    simp only [Act.put, List.setIfInBounds_toArray, List.set_cons_zero, List.set_cons_succ]
    -- 10 (not wanted): Op.binOp BinOp.neq 32 (Operand.tmp 20) (Operand.const (Value
    refine' anyZ_pure (i := 10) (v := undef) rfl (by rfl) (by kernel_rfl) (by kernel_rfl) (by kernel_rfl) hcl10 (fun _ _ _ h => h) (Or.inr ⟨by rfl, rfl⟩) (fun _ => hHeld) (fun hcl11 => ?rp111)
    simp only [Act.put, List.setIfInBounds_toArray, List.set_cons_zero, List.set_cons_succ]
    -- 11 (not wanted): Op.fieldAddr 36 (Operand.tmp 1) 0
    refine anyZ_oneSkip (i := 11) hcl11 (by kernel_rfl) (by simp only [List.getElem?_toArray, List.getElem?_cons_succ, List.getElem?_cons_zero]; rfl) (by rfl) (fun _ => hHeld) (fun hcl12 => ?_)
    simp only [Act.put, List.setIfInBounds_toArray, List.set_cons_zero, List.set_cons_succ]
    -- 12 (not wanted): Op.load 5 (Operand.tmp 22)
    refine anyZ_oneSkip (i := 12) hcl12 (by kernel_rfl) (by simp only [List.getElem?_toArray, List.getElem?_cons_succ, List.getElem?_cons_zero]; rfl) (by rfl) (fun _ => hHeld) (fun hcl13 => ?_)
    simp only [Act.put, List.setIfInBounds_toArray, List.set_cons_zero, List.set_cons_succ]
    -- 13 (not wanted): Op.call { callee := Callee.value (Operand.func 34), args := 
    refine anyZ_oneSkip (i := 13) hcl13 (by kernel_rfl) (by simp only [List.getElem?_toArray, List.getElem?_cons_succ, List.getElem?_cons_zero]; rfl) (by rfl) (fun _ => hHeld) (fun hcl14 => ?_)
    simp only [Act.put, List.setIfInBounds_toArray, List.set_cons_zero, List.set_cons_succ]
    -- 14 (not wanted): Op.binOp BinOp.eql 4 (Operand.tmp 21) (Operand.tmp 24) 4
    refine anyZ_oneSkip (i := 14) hcl14 (by kernel_rfl) (by simp only [List.getElem?_toArray, List.getElem?_cons_succ, List.getElem?_cons_zero]; rfl) (by rfl) (fun _ => hHeld) (fun hcl15 => ?_)
    simp only [Act.put, List.setIfInBounds_toArray, List.set_cons_zero, List.set_cons_succ]
    -- 15: Op.pick (Operand.tmp 18) (Operand.tmp 25) (Operand.const (Va
    refine' anyZ_pure (i := 15) (v := _) rfl (by rfl) (by kernel_rfl) (by kernel_rfl) (by kernel_rfl) hcl15 (fun _ _ _ h => h) (Or.inl ⟨by rfl, fun w _ => ?hp116⟩) (fun _ => hHeld) (fun hcl16 => ?rp116)
    case hp116 => (simp only [List.getElem_toArray, List.getElem_cons_succ, List.getElem_cons_zero]; first | (go_simp; with_reducible rfl) | (go_simp; done) | rfl)
    simp only [List.getElem_toArray, List.getElem_cons_succ, List.getElem_cons_zero, Act.put, List.setIfInBounds_toArray, List.set_cons_zero, List.set_cons_succ]
    -- 16: Op.move (Operand.tmp 26)
    refine' anyZ_pure (i := 16) (v := _) rfl (by rfl) (by kernel_rfl) (by kernel_rfl) (by kernel_rfl) hcl16 (fun _ _ _ h => h) (Or.inl ⟨by rfl, fun w _ => ?hp117⟩) (fun _ => hHeld) (fun hcl17 => ?rp117)
    case hp117 => (simp only [List.getElem_toArray, List.getElem_cons_succ, List.getElem_cons_zero]; first | (go_simp; with_reducible rfl) | (go_simp; done) | rfl)
    simp only [List.getElem_toArray, List.getElem_cons_succ, List.getElem_cons_zero, Act.put, List.setIfInBounds_toArray, List.set_cons_zero, List.set_cons_succ]
    -- 17 (not wanted): Op.fieldAddr 36 (Operand.tmp 1) 3
    refine' anyZ_pure (i := 17) (v := undef) rfl (by rfl) (by kernel_rfl) (by kernel_rfl) (by kernel_rfl) hcl17 (fun _ _ _ h => h) (Or.inr ⟨by rfl, rfl⟩) (fun _ => hHeld) (fun hcl18 => ?rp118)
    simp only [Act.put, List.setIfInBounds_toArray, List.set_cons_zero, List.set_cons_succ]
    -- 18 (not wanted): Op.load 9 (Operand.tmp 28)
    refine' anyZ_pure (i := 18) (v := undef) rfl (by rfl) (by kernel_rfl) (by kernel_rfl) (by kernel_rfl) hcl18 (fun _ _ _ h => h) (Or.inr ⟨by rfl, rfl⟩) (fun _ => hHeld) (fun hcl19 => ?rp119)
    simp only [Act.put, List.setIfInBounds_toArray, List.set_cons_zero, List.set_cons_succ]
    -- 19 (not wanted): Op.binOp BinOp.neq 9 (Operand.tmp 29) (Operand.const (Value.
    refine' anyZ_pure (i := 19) (v := undef) rfl (by rfl) (by kernel_rfl) (by kernel_rfl) (by kernel_rfl) hcl19 (fun _ _ _ h => h) (Or.inr ⟨by rfl, rfl⟩) (fun _ => hHeld) (fun hcl20 => ?rp120)
    simp only [Act.put, List.setIfInBounds_toArray, List.set_cons_zero, List.set_cons_succ]
    -- 20 (not wanted): Op.fieldAddr 36 (Operand.tmp 1) 0
    refine anyZ_oneSkip (i := 20) hcl20 (by kernel_rfl) (by simp only [List.getElem?_toArray, List.getElem?_cons_succ, List.getElem?_cons_zero]; rfl) (by rfl) (fun _ => hHeld) (fun hcl21 => ?_)
    simp only [Act.put, List.setIfInBounds_toArray, List.set_cons_zero, List.set_cons_succ]
    -- 21 (not wanted): Op.load 5 (Operand.tmp 31)
    refine anyZ_oneSkip (i := 21) hcl21 (by kernel_rfl) (by simp only [List.getElem?_toArray, List.getElem?_cons_succ, List.getElem?_cons_zero]; rfl) (by rfl) (fun _ => hHeld) (fun hcl22 => ?_)
    simp only [Act.put, List.setIfInBounds_toArray, List.set_cons_zero, List.set_cons_succ]
    -- 22 (not wanted): Op.call { callee := Callee.value (Operand.func 34), args := 
    refine anyZ_oneSkip (i := 22) hcl22 (by kernel_rfl) (by simp only [List.getElem?_toArray, List.getElem?_cons_succ, List.getElem?_cons_zero]; rfl) (by rfl) (fun _ => hHeld) (fun hcl23 => ?_)
    simp only [Act.put, List.setIfInBounds_toArray, List.set_cons_zero, List.set_cons_succ]
    -- 23 (not wanted): Op.binOp BinOp.eql 4 (Operand.tmp 30) (Operand.tmp 33) 4
    refine anyZ_oneSkip (i := 23) hcl23 (by kernel_rfl) (by simp only [List.getElem?_toArray, List.getElem?_cons_succ, List.getElem?_cons_zero]; rfl) (by rfl) (fun _ => hHeld) (fun hcl24 => ?_)
    simp only [Act.put, List.setIfInBounds_toArray, List.set_cons_zero, List.set_cons_succ]
    -- 24: Op.pick (Operand.tmp 27) (Operand.tmp 34) (Operand.const (Va
    refine' anyZ_pure (i := 24) (v := _) rfl (by rfl) (by kernel_rfl) (by kernel_rfl) (by kernel_rfl) hcl24 (fun _ _ _ h => h) (Or.inl ⟨by rfl, fun w _ => ?hp125⟩) (fun _ => hHeld) (fun hcl25 => ?rp125)
    case hp125 => (simp only [List.getElem_toArray, List.getElem_cons_succ, List.getElem_cons_zero]; first | (go_simp; with_reducible rfl) | (go_simp; done) | rfl)
    simp only [List.getElem_toArray, List.getElem_cons_succ, List.getElem_cons_zero, Act.put, List.setIfInBounds_toArray, List.set_cons_zero, List.set_cons_succ]
    -- 25: Op.move (Operand.tmp 35)
    refine' anyZ_pure (i := 25) (v := _) rfl (by rfl) (by kernel_rfl) (by kernel_rfl) (by kernel_rfl) hcl25 (fun _ _ _ h => h) (Or.inl ⟨by rfl, fun w _ => ?hp126⟩) (fun _ => hHeld) (fun hcl26 => ?rp126)
    case hp126 => (simp only [List.getElem_toArray, List.getElem_cons_succ, List.getElem_cons_zero]; first | (go_simp; with_reducible rfl) | (go_simp; done) | rfl)
    simp only [List.getElem_toArray, List.getElem_cons_succ, List.getElem_cons_zero, Act.put, List.setIfInBounds_toArray, List.set_cons_zero, List.set_cons_succ]
    -- 26 (not wanted): Op.fieldAddr 36 (Operand.tmp 1) 3
    refine anyZ_oneSkip (i := 26) hcl26 (by kernel_rfl) (by simp only [List.getElem?_toArray, List.getElem?_cons_succ, List.getElem?_cons_zero]; rfl) (by rfl) (fun _ => hHeld) (fun hcl27 => ?_)
    simp only [Act.put, List.setIfInBounds_toArray, List.set_cons_zero, List.set_cons_succ]
    -- 27 (not wanted): Op.load 9 (Operand.tmp 37)
    refine anyZ_oneSkip (i := 27) hcl27 (by kernel_rfl) (by simp only [List.getElem?_toArray, List.getElem?_cons_succ, List.getElem?_cons_zero]; rfl) (by rfl) (fun _ => hHeld) (fun hcl28 => ?_)
    simp only [Act.put, List.setIfInBounds_toArray, List.set_cons_zero, List.set_cons_succ]
    -- 28 (not wanted): Op.binOp BinOp.eql 9 (Operand.tmp 38) (Operand.const (Value.
    refine anyZ_oneSkip (i := 28) hcl28 (by kernel_rfl) (by simp only [List.getElem?_toArray, List.getElem?_cons_succ, List.getElem?_cons_zero]; rfl) (by rfl) (fun _ => hHeld) (fun hcl29 => ?_)
    simp only [Act.put, List.setIfInBounds_toArray, List.set_cons_zero, List.set_cons_succ]
    -- 29 (not wanted): Op.move (Operand.tmp 39)
    refine anyZ_oneSkip (i := 29) hcl29 (by kernel_rfl) (by simp only [List.getElem?_toArray, List.getElem?_cons_succ, List.getElem?_cons_zero]; rfl) (by rfl) (fun _ => hHeld) (fun hcl30 => ?_)
    simp only [Act.put, List.setIfInBounds_toArray, List.set_cons_zero, List.set_cons_succ]
    -- 30 (not wanted): Op.fieldAddr 36 (Operand.tmp 1) 3
    refine anyZ_oneSkip (i := 30) hcl30 (by kernel_rfl) (by simp only [List.getElem?_toArray, List.getElem?_cons_succ, List.getElem?_cons_zero]; rfl) (by rfl) (fun _ => hHeld) (fun hcl31 => ?_)
    simp only [Act.put, List.setIfInBounds_toArray, List.set_cons_zero, List.set_cons_succ]
    -- 31 (not wanted): Op.load 9 (Operand.tmp 41)
    refine anyZ_oneSkip (i := 31) hcl31 (by kernel_rfl) (by simp only [List.getElem?_toArray, List.getElem?_cons_succ, List.getElem?_cons_zero]; rfl) (by rfl) (fun _ => hHeld) (fun hcl32 => ?_)
    simp only [Act.put, List.setIfInBounds_toArray, List.set_cons_zero, List.set_cons_succ]
    -- 32 (not wanted): Op.call { callee := Callee.value (Operand.func 40), args := 
    refine anyZ_oneSkip (i := 32) hcl32 (by kernel_rfl) (by simp only [List.getElem?_toArray, List.getElem?_cons_succ, List.getElem?_cons_zero]; rfl) (by rfl) (fun _ => hHeld) (fun hcl33 => ?_)
    simp only [Act.put, List.setIfInBounds_toArray, List.set_cons_zero, List.set_cons_succ]
    -- 33 (not wanted): Op.pick (Operand.tmp 40) (Operand.const (Value.bool true)) (
    refine anyZ_oneSkip (i := 33) hcl33 (by kernel_rfl) (by simp only [List.getElem?_toArray, List.getElem?_cons_succ, List.getElem?_cons_zero]; rfl) (by rfl) (fun _ => hHeld) (fun hcl34 => ?_)
    simp only [Act.put, List.setIfInBounds_toArray, List.set_cons_zero, List.set_cons_succ]
    -- 34: Op.pick (Operand.tmp 36) (Operand.tmp 44) (Operand.const (Va
    refine' anyZ_pure (i := 34) (v := _) rfl (by rfl) (by kernel_rfl) (by kernel_rfl) (by kernel_rfl) hcl34 (fun _ _ _ h => h) (Or.inl ⟨by rfl, fun w _ => ?hp135⟩) (fun _ => hHeld) (fun hcl35 => ?rp135)
    case hp135 => (simp only [List.getElem_toArray, List.getElem_cons_succ, List.getElem_cons_zero]; first | (go_simp; with_reducible rfl) | (go_simp; done) | rfl)
    simp only [List.getElem_toArray, List.getElem_cons_succ, List.getElem_cons_zero, Act.put, List.setIfInBounds_toArray, List.set_cons_zero, List.set_cons_succ]
    clear hHeld
    refine anyZ_chain_at (by kernel_rfl) ?_
    simp only [List.drop_succ_cons, List.drop_zero]
    go_wp2_with fail
    go_ret
    exact ⟨rfl, HB0.out.trans (((bdr (bre W))).mono HB0.out.size)⟩
  | true =>
    have q1 : decide (A = K) = true := by rw [← p1]; cases A <;> cases K <;> rfl
    rw [p1, Bool.true_and] at hx2
    cases p2 : (B == T1) with
    | false =>
      have q2 : decide (B = T1) = false := by rw [← p2]; cases B <;> cases T1 <;> rfl
      rw [p2] at hx2
      have hr : x = false := by rw [hx2]; rfl
      subst hr
      clear hx2
      refine region_anyZ (z := 35) (S := fun w' => (w'.cell? ⟨n1, 0, none⟩ = some (.int .u8 k) ∧ w'.cell? ⟨n1, 1, none⟩ = some (.int .u64 a) ∧ w'.cell? ⟨n1, 2, none⟩ = some (.int .u64 b) ∧ w'.cell? ⟨n1, 3, none⟩ = some (.string nm))) (by kernel_rfl) ?_
      refine anyZ_begin (fun hcl0 => ?_)
      refine anyZ_held (by exact HSB.out _ (bdr (bre W))) (fun hHeld => ?_)
      -- 0: Op.fieldAddr 36 (Operand.tmp 1) 1
      refine' anyZ_pure (i := 0) (v := _) rfl (by rfl) (by kernel_rfl) (by kernel_rfl) (by kernel_rfl) hcl0 (fun _ _ _ h => h) (Or.inl ⟨by rfl, fun w _ => ?hp21⟩) (fun _ => hHeld) (fun hcl1 => ?rp21)
      case hp21 => (simp only [List.getElem_toArray, List.getElem_cons_zero]; first | (go_simp; with_reducible rfl) | (go_simp; done) | rfl)
      simp only [List.getElem_toArray, List.getElem_cons_zero, Act.put, List.setIfInBounds_toArray, List.set_cons_zero, List.set_cons_succ]
      -- 1: Op.load 32 (Operand.tmp 11)
      refine' anyZ_take (i := 1) (v := _) rfl (by rfl) (by kernel_rfl) (by kernel_rfl) (by kernel_rfl) hcl1 16 (by kernel_rfl) (by kernel_rfl) (fun _ _ _ h => h) (Or.inl ⟨by rfl, fun w hSw => ?hp22⟩) hHeld (fun hcl2 => ?rp22)
      case hp22 => (simp only [List.getElem_toArray, List.getElem_cons_succ, List.getElem_cons_zero]; obtain ⟨hS1, hS2, hS3, hS4⟩ := hSw; first | (go_simp; with_reducible rfl) | (go_simp; done) | rfl)
      simp only [List.getElem_toArray, List.getElem_cons_succ, List.getElem_cons_zero, Act.put, List.setIfInBounds_toArray, List.set_cons_zero, List.set_cons_succ]
      -- 2: Op.binOp BinOp.neq 32 (Operand.tmp 12) (Operand.const (Value
      refine' anyZ_pure (i := 2) (v := _) rfl (by rfl) (by kernel_rfl) (by kernel_rfl) (by kernel_rfl) hcl2 (fun _ _ _ h => h) (Or.inl ⟨by rfl, fun w _ => ?hp23⟩) (fun _ => hHeld) (fun hcl3 => ?rp23)
      case hp23 => (simp only [List.getElem_toArray, List.getElem_cons_succ, List.getElem_cons_zero]; first | (go_simp; with_reducible rfl) | (go_simp; done) | rfl)
      simp only [List.getElem_toArray, List.getElem_cons_succ, List.getElem_cons_zero, Act.put, List.setIfInBounds_toArray, List.set_cons_zero, List.set_cons_succ]
      -- 3: Op.fieldAddr 36 (Operand.tmp 1) 0
      refine' anyZ_pure (i := 3) (v := _) rfl (by rfl) (by kernel_rfl) (by kernel_rfl) (by kernel_rfl) hcl3 (fun _ _ _ h => h) (Or.inl ⟨by rfl, fun w _ => ?hp24⟩) (fun _ => hHeld) (fun hcl4 => ?rp24)
      case hp24 => (simp only [List.getElem_toArray, List.getElem_cons_succ, List.getElem_cons_zero]; first | (go_simp; with_reducible rfl) | (go_simp; done) | rfl)
      simp only [List.getElem_toArray, List.getElem_cons_succ, List.getElem_cons_zero, Act.put, List.setIfInBounds_toArray, List.set_cons_zero, List.set_cons_succ]
      -- 4: Op.load 5 (Operand.tmp 14)
      refine' anyZ_take (i := 4) (v := _) rfl (by rfl) (by kernel_rfl) (by kernel_rfl) (by kernel_rfl) hcl4 16 (by kernel_rfl) (by kernel_rfl) (fun _ _ _ h => h) (Or.inl ⟨by rfl, fun w hSw => ?hp25⟩) hHeld (fun hcl5 => ?rp25)
      case hp25 => (simp only [List.getElem_toArray, List.getElem_cons_succ, List.getElem_cons_zero]; obtain ⟨hS1, hS2, hS3, hS4⟩ := hSw; first | (go_simp; with_reducible rfl) | (go_simp; done) | rfl)
      simp only [List.getElem_toArray, List.getElem_cons_succ, List.getElem_cons_zero, Act.put, List.setIfInBounds_toArray, List.set_cons_zero, List.set_cons_succ]
      -- 5: Op.binOp BinOp.neq 5 (Operand.tmp 15) (Operand.const (Value.
      refine' anyZ_pure (i := 5) (v := _) rfl (by rfl) (by kernel_rfl) (by kernel_rfl) (by kernel_rfl) hcl5 (fun _ _ _ h => h) (Or.inl ⟨by rfl, fun w _ => ?hp26⟩) (fun _ => hHeld) (fun hcl6 => ?rp26)
      case hp26 => (simp only [List.getElem_toArray, List.getElem_cons_succ, List.getElem_cons_zero]; first | (go_simp; with_reducible rfl) | (go_simp; done) | rfl)
      simp only [List.getElem_toArray, List.getElem_cons_succ, List.getElem_cons_zero, Act.put, List.setIfInBounds_toArray, List.set_cons_zero, List.set_cons_succ]
      -- 6: Op.binOp BinOp.eql 4 (Operand.tmp 13) (Operand.tmp 16) 4
      refine' anyZ_pure (i := 6) (v := _) rfl (by rfl) (by kernel_rfl) (by kernel_rfl) (by kernel_rfl) hcl6 (fun _ _ _ h => h) (Or.inl ⟨by rfl, fun w _ => ?hp27⟩) (fun _ => hHeld) (fun hcl7 => ?rp27)
      case hp27 => (simp only [List.getElem_toArray, List.getElem_cons_succ, List.getElem_cons_zero]; first | (go_simp; with_reducible rfl) | (go_simp; done) | rfl)
      simp only [List.getElem_toArray, List.getElem_cons_succ, List.getElem_cons_zero, Act.put, List.setIfInBounds_toArray, List.set_cons_zero, List.set_cons_succ]
      -- 7: Op.move (Operand.tmp 17)
      refine' anyZ_pure (i := 7) (v := _) rfl (by rfl) (by kernel_rfl) (by kernel_rfl) (by kernel_rfl) hcl7 (fun _ _ _ h => h) (Or.inl ⟨by rfl, fun w _ => ?hp28⟩) (fun _ => hHeld) (fun hcl8 => ?rp28)
      case hp28 => (simp only [List.getElem_toArray, List.getElem_cons_succ, List.getElem_cons_zero]; first | (go_simp; with_reducible rfl) | (go_simp; done) | rfl)
      simp only [List.getElem_toArray, List.getElem_cons_succ, List.getElem_cons_zero, Act.put, List.setIfInBounds_toArray, List.set_cons_zero, List.set_cons_succ]
      -- 8: Op.fieldAddr 36 (Operand.tmp 1) 2
      refine' anyZ_pure (i := 8) (v := _) rfl (by rfl) (by kernel_rfl) (by kernel_rfl) (by kernel_rfl) hcl8 (fun _ _ _ h => h) (Or.inl ⟨by rfl, fun w _ => ?hp29⟩) (fun _ => hHeld) (fun hcl9 => ?rp29)
      case hp29 => (simp only [List.getElem_toArray, List.getElem_cons_succ, List.getElem_cons_zero]; first | (go_simp; with_reducible rfl) | (go_simp; done) | rfl)
      simp only [List.getElem_toArray, List.getElem_cons_succ, List.getElem_cons_zero, Act.put, List.setIfInBounds_toArray, List.set_cons_zero, List.set_cons_succ]
      -- 9: Op.load 32 (Operand.tmp 19)
      refine' anyZ_take (i := 9) (v := _) rfl (by rfl) (by kernel_rfl) (by kernel_rfl) (by kernel_rfl) hcl9 16 (by kernel_rfl) (by kernel_rfl) (fun _ _ _ h => h) (Or.inl ⟨by rfl, fun w hSw => ?hp210⟩) hHeld (fun hcl10 => ?rp210)
      case hp210 => (simp only [List.getElem_toArray, List.getElem_cons_succ, List.getElem_cons_zero]; obtain ⟨hS1, hS2, hS3, hS4⟩ := hSw; first | (go_simp; with_reducible rfl) | (go_simp; done) | rfl)
      simp only [List.getElem_toArray, List.getElem_cons_succ, List.getElem_cons_zero, Act.put, List.setIfInBounds_toArray, List.set_cons_zero, List.set_cons_succ]
      -- 10: Op.binOp BinOp.neq 32 (Operand.tmp 20) (Operand.const (Value
      refine' anyZ_pure (i := 10) (v := _) rfl (by rfl) (by kernel_rfl) (by kernel_rfl) (by kernel_rfl) hcl10 (fun _ _ _ h => h) (Or.inl ⟨by rfl, fun w _ => ?hp211⟩) (fun _ => hHeld) (fun hcl11 => ?rp211)
      case hp211 => (simp only [List.getElem_toArray, List.getElem_cons_succ, List.getElem_cons_zero]; first | (go_simp; with_reducible rfl) | (go_simp; done) | rfl)
      simp only [List.getElem_toArray, List.getElem_cons_succ, List.getElem_cons_zero, Act.put, List.setIfInBounds_toArray, List.set_cons_zero, List.set_cons_succ]
      -- 11: Op.fieldAddr 36 (Operand.tmp 1) 0
      refine' anyZ_pure (i := 11) (v := _) rfl (by rfl) (by kernel_rfl) (by kernel_rfl) (by kernel_rfl) hcl11 (fun _ _ _ h => h) (Or.inl ⟨by rfl, fun w _ => ?hp212⟩) (fun _ => hHeld) (fun hcl12 => ?rp212)
      case hp212 => (simp only [List.getElem_toArray, List.getElem_cons_succ, List.getElem_cons_zero]; first | (go_simp; with_reducible rfl) | (go_simp; done) | rfl)
      simp only [List.getElem_toArray, List.getElem_cons_succ, List.getElem_cons_zero, Act.put, List.setIfInBounds_toArray, List.set_cons_zero, List.set_cons_succ]
      -- 12: Op.load 5 (Operand.tmp 22)
      refine' anyZ_take (i := 12) (v := _) rfl (by rfl) (by kernel_rfl) (by kernel_rfl) (by kernel_rfl) hcl12 16 (by kernel_rfl) (by kernel_rfl) (fun _ _ _ h => h) (Or.inl ⟨by rfl, fun w hSw => ?hp213⟩) hHeld (fun hcl13 => ?rp213)
      case hp213 => (simp only [List.getElem_toArray, List.getElem_cons_succ, List.getElem_cons_zero]; obtain ⟨hS1, hS2, hS3, hS4⟩ := hSw; first | (go_simp; with_reducible rfl) | (go_simp; done) | rfl)
      simp only [List.getElem_toArray, List.getElem_cons_succ, List.getElem_cons_zero, Act.put, List.setIfInBounds_toArray, List.set_cons_zero, List.set_cons_succ]
      -- 13: Op.call { callee := Callee.value (Operand.func 34), args := 
      refine anyZ_oneG (i := 13) hcl13 (by kernel_rfl) (by simp only [List.getElem?_toArray, List.getElem?_cons_succ, List.getElem?_cons_zero]; rfl) (by rfl) (fun hcl14 K hK => ?_)
      go_simp
      refine (HIS1.out _).mono ?_
      rintro e wa ⟨rfl, hwa⟩
      have hwa' := hwa.symm
      subst hwa'
      clear hwa
      refine hK _ _ (fun _ => ?_) ?_
      · exact HSB.out _ (bdr (bre W))
      clear hK K hHeld
      have hHeld := (HSB.out _ (bdr (bre W)))
      try simp only [Act.put, List.setIfInBounds_toArray, List.set_cons_zero, List.set_cons_succ]
      -- 14: Op.binOp BinOp.eql 4 (Operand.tmp 21) (Operand.tmp 24) 4
      refine' anyZ_pure (i := 14) (v := _) rfl (by rfl) (by kernel_rfl) (by kernel_rfl) (by kernel_rfl) hcl14 (fun _ _ _ h => h) (Or.inl ⟨by rfl, fun w _ => ?hp215⟩) (fun _ => hHeld) (fun hcl15 => ?rp215)
      case hp215 => (simp only [List.getElem_toArray, List.getElem_cons_succ, List.getElem_cons_zero]; first | (go_simp; with_reducible rfl) | (go_simp; done) | rfl)
      simp only [List.getElem_toArray, List.getElem_cons_succ, List.getElem_cons_zero, Act.put, List.setIfInBounds_toArray, List.set_cons_zero, List.set_cons_succ]
      -- 15: Op.pick (Operand.tmp 18) (Operand.tmp 25) (Operand.const (Va
      refine' anyZ_pure (i := 15) (v := _) rfl (by rfl) (by kernel_rfl) (by kernel_rfl) (by kernel_rfl) hcl15 (fun _ _ _ h => h) (Or.inl ⟨by rfl, fun w _ => ?hp216⟩) (fun _ => hHeld) (fun hcl16 => ?rp216)
      case hp216 => (simp only [List.getElem_toArray, List.getElem_cons_succ, List.getElem_cons_zero]; first | (go_simp; with_reducible rfl) | (go_simp; done) | rfl)
      simp only [List.getElem_toArray, List.getElem_cons_succ, List.getElem_cons_zero, Act.put, List.setIfInBounds_toArray, List.set_cons_zero, List.set_cons_succ]
      -- 16: Op.move (Operand.tmp 26)
      refine' anyZ_pure (i := 16) (v := _) rfl (by rfl) (by kernel_rfl) (by kernel_rfl) (by kernel_rfl) hcl16 (fun _ _ _ h => h) (Or.inl ⟨by rfl, fun w _ => ?hp217⟩) (fun _ => hHeld) (fun hcl17 => ?rp217)
      case hp217 => (simp only [List.getElem_toArray, List.getElem_cons_succ, List.getElem_cons_zero]; first | (go_simp; with_reducible rfl) | (go_simp; done) | rfl)
      simp only [List.getElem_toArray, List.getElem_cons_succ, List.getElem_cons_zero, Act.put, List.setIfInBounds_toArray, List.set_cons_zero, List.set_cons_succ]
      -- 17 (not wanted): Op.fieldAddr 36 (Operand.tmp 1) 3
      refine' anyZ_pure (i := 17) (v := undef) rfl (by rfl) (by kernel_rfl) (by kernel_rfl) (by kernel_rfl) hcl17 (fun _ _ _ h => h) (Or.inr ⟨by rfl, rfl⟩) (fun _ => hHeld) (fun hcl18 => ?rp218)
      simp only [Act.put, List.setIfInBounds_toArray, List.set_cons_zero, List.set_cons_succ]
      -- 18 (not wanted): Op.load 9 (Operand.tmp 28)
      refine' anyZ_pure (i := 18) (v := undef) rfl (by rfl) (by kernel_rfl) (by kernel_rfl) (by kernel_rfl) hcl18 (fun _ _ _ h => h) (Or.inr ⟨by rfl, rfl⟩) (fun _ => hHeld) (fun hcl19 => ?rp219)
      simp only [Act.put, List.setIfInBounds_toArray, List.set_cons_zero, List.set_cons_succ]
      -- 19 (not wanted): Op.binOp BinOp.neq 9 (Operand.tmp 29) (Operand.const (Value.
      refine' anyZ_pure (i := 19) (v := undef) rfl (by rfl) (by kernel_rfl) (by kernel_rfl) (by kernel_rfl) hcl19 (fun _ _ _ h => h) (Or.inr ⟨by rfl, rfl⟩) (fun _ => hHeld) (fun hcl20 => ?rp220)
      simp only [Act.put, List.setIfInBounds_toArray, List.set_cons_zero, List.set_cons_succ]
      -- 20 (not wanted): Op.fieldAddr 36 (Operand.tmp 1) 0
      refine anyZ_oneSkip (i := 20) hcl20 (by kernel_rfl) (by simp only [List.getElem?_toArray, List.getElem?_cons_succ, List.getElem?_cons_zero]; rfl) (by rfl) (fun _ => hHeld) (fun hcl21 => ?_)
      simp only [Act.put, List.setIfInBounds_toArray, List.set_cons_zero, List.set_cons_succ]
      -- 21 (not wanted): Op.load 5 (Operand.tmp 31)
      refine anyZ_oneSkip (i := 21) hcl21 (by kernel_rfl) (by simp only [List.getElem?_toArray, List.getElem?_cons_succ, List.getElem?_cons_zero]; rfl) (by rfl) (fun _ => hHeld) (fun hcl22 => ?_)
      simp only [Act.put, List.setIfInBounds_toArray, List.set_cons_zero, List.set_cons_succ]
      -- 22 (not wanted): Op.call { callee := Callee.value (Operand.func 34), args := 
      refine anyZ_oneSkip (i := 22) hcl22 (by kernel_rfl) (by simp only [List.getElem?_toArray, List.getElem?_cons_succ, List.getElem?_cons_zero]; rfl) (by rfl) (fun _ => hHeld) (fun hcl23 => ?_)
      simp only [Act.put, List.setIfInBounds_toArray, List.set_cons_zero, List.set_cons_succ]
      -- 23 (not wanted): Op.binOp BinOp.eql 4 (Operand.tmp 30) (Operand.tmp 33) 4
      refine anyZ_oneSkip (i := 23) hcl23 (by kernel_rfl) (by simp only [List.getElem?_toArray, List.getElem?_cons_succ, List.getElem?_cons_zero]; rfl) (by rfl) (fun _ => hHeld) (fun hcl24 => ?_)
      simp only [Act.put, List.setIfInBounds_toArray, List.set_cons_zero, List.set_cons_succ]
      -- 24: Op.pick (Operand.tmp 27) (Operand.tmp 34) (Operand.const (Va
      refine' anyZ_pure (i := 24) (v := _) rfl (by rfl) (by kernel_rfl) (by kernel_rfl) (by kernel_rfl) hcl24 (fun _ _ _ h => h) (Or.inl ⟨by rfl, fun w _ => ?hp225⟩) (fun _ => hHeld) (fun hcl25 => ?rp225)
      case hp225 => (simp only [List.getElem_toArray, List.getElem_cons_succ, List.getElem_cons_zero]; first | (go_simp; with_reducible rfl) | (go_simp; done) | rfl)
      simp only [List.getElem_toArray, List.getElem_cons_succ, List.getElem_cons_zero, Act.put, List.setIfInBounds_toArray, List.set_cons_zero, List.set_cons_succ]
      -- 25: Op.move (Operand.tmp 35)
      refine' anyZ_pure (i := 25) (v := _) rfl (by rfl) (by kernel_rfl) (by kernel_rfl) (by kernel_rfl) hcl25 (fun _ _ _ h => h) (Or.inl ⟨by rfl, fun w _ => ?hp226⟩) (fun _ => hHeld) (fun hcl26 => ?rp226)
      case hp226 => (simp only [List.getElem_toArray, List.getElem_cons_succ, List.getElem_cons_zero]; first | (go_simp; with_reducible rfl) | (go_simp; done) | rfl)
      simp only [List.getElem_toArray, List.getElem_cons_succ, List.getElem_cons_zero, Act.put, List.setIfInBounds_toArray, List.set_cons_zero, List.set_cons_succ]
      -- 26 (not wanted): Op.fieldAddr 36 (Operand.tmp 1) 3
      refine anyZ_oneSkip (i := 26) hcl26 (by kernel_rfl) (by simp only [List.getElem?_toArray, List.getElem?_cons_succ, List.getElem?_cons_zero]; rfl) (by rfl) (fun _ => hHeld) (fun hcl27 => ?_)
      simp only [Act.put, List.setIfInBounds_toArray, List.set_cons_zero, List.set_cons_succ]
      -- 27 (not wanted): Op.load 9 (Operand.tmp 37)
      refine anyZ_oneSkip (i := 27) hcl27 (by kernel_rfl) (by simp only [List.getElem?_toArray, List.getElem?_cons_succ, List.getElem?_cons_zero]; rfl) (by rfl) (fun _ => hHeld) (fun hcl28 => ?_)
      simp only [Act.put, List.setIfInBounds_toArray, List.set_cons_zero, List.set_cons_succ]
      -- 28 (not wanted): Op.binOp BinOp.eql 9 (Operand.tmp 38) (Operand.const (Value.
      refine anyZ_oneSkip (i := 28) hcl28 (by kernel_rfl) (by simp only [List.getElem?_toArray, List.getElem?_cons_succ, List.getElem?_cons_zero]; rfl) (by rfl) (fun _ => hHeld) (fun hcl29 => ?_)
      simp only [Act.put, List.setIfInBounds_toArray, List.set_cons_zero, List.set_cons_succ]
      -- 29 (not wanted): Op.move (Operand.tmp 39)
      refine anyZ_oneSkip (i := 29) hcl29 (by kernel_rfl) (by simp only [List.getElem?_toArray, List.getElem?_cons_succ, List.getElem?_cons_zero]; rfl) (by rfl) (fun _ => hHeld) (fun hcl30 => ?_)
      simp only [Act.put, List.setIfInBounds_toArray, List.set_cons_zero, List.set_cons_succ]
      -- 30 (not wanted): Op.fieldAddr 36 (Operand.tmp 1) 3
      refine anyZ_oneSkip (i := 30) hcl30 (by kernel_rfl) (by simp only [List.getElem?_toArray, List.getElem?_cons_succ, List.getElem?_cons_zero]; rfl) (by rfl) (fun _ => hHeld) (fun hcl31 => ?_)
      simp only [Act.put, List.setIfInBounds_toArray, List.set_cons_zero, List.set_cons_succ]
      -- 31 (not wanted): Op.load 9 (Operand.tmp 41)
      refine anyZ_oneSkip (i := 31) hcl31 (by kernel_rfl) (by simp only [List.getElem?_toArray, List.getElem?_cons_succ, List.getElem?_cons_zero]; rfl) (by rfl) (fun _ => hHeld) (fun hcl32 => ?_)
      simp only [Act.put, List.setIfInBounds_toArray, List.set_cons_zero, List.set_cons_succ]
      -- 32 (not wanted): Op.call { callee := Callee.value (Operand.func 40), args := 
      refine anyZ_oneSkip (i := 32) hcl32 (by kernel_rfl) (by simp only [List.getElem?_toArray, List.getElem?_cons_succ, List.getElem?_cons_zero]; rfl) (by rfl) (fun _ => hHeld) (fun hcl33 => ?_)
      simp only [Act.put, List.setIfInBounds_toArray, List.set_cons_zero, List.set_cons_succ]
      -- 33 (not wanted): Op.pick (Operand.tmp 40) (Operand.const (Value.bool true)) (
      refine anyZ_oneSkip (i := 33) hcl33 (by kernel_rfl) (by simp only [List.getElem?_toArray, List.getElem?_cons_succ, List.getElem?_cons_zero]; rfl) (by rfl) (fun _ => hHeld) (fun hcl34 => ?_)
      simp only [Act.put, List.setIfInBounds_toArray, List.set_cons_zero, List.set_cons_succ]
      -- 34: Op.pick (Operand.tmp 36) (Operand.tmp 44) (Operand.const (Va
      refine' anyZ_pure (i := 34) (v := _) rfl (by rfl) (by kernel_rfl) (by kernel_rfl) (by kernel_rfl) hcl34 (fun _ _ _ h => h) (Or.inl ⟨by rfl, fun w _ => ?hp235⟩) (fun _ => hHeld) (fun hcl35 => ?rp235)
      case hp235 => (simp only [List.getElem_toArray, List.getElem_cons_succ, List.getElem_cons_zero]; first | (go_simp; with_reducible rfl) | (go_simp; done) | rfl)
      simp only [List.getElem_toArray, List.getElem_cons_succ, List.getElem_cons_zero, Act.put, List.setIfInBounds_toArray, List.set_cons_zero, List.set_cons_succ]
      clear hHeld
      refine anyZ_chain_at (by kernel_rfl) ?_
      simp only [List.drop_succ_cons, List.drop_zero]
      go_wp2_with fail
      go_ret
      exact ⟨rfl, HB0.out.trans (((bdr (bre W))).mono HB0.out.size)⟩
    | true =>
      have q2 : decide (B = T1) = true := by rw [← p2]; cases B <;> cases T1 <;> rfl
      rw [p2, Bool.true_and] at hx2
      cases p3 : (N == T2) with
      | false =>
        have q3 : decide (N = T2) = false := by rw [← p3]; cases N <;> cases T2 <;> rfl
        rw [p3] at hx2
        have hr : x = false := by rw [hx2]; rfl
        subst hr
        clear hx2
        refine region_anyZ (z := 35) (S := fun w' => (w'.cell? ⟨n1, 0, none⟩ = some (.int .u8 k) ∧ w'.cell? ⟨n1, 1, none⟩ = some (.int .u64 a) ∧ w'.cell? ⟨n1, 2, none⟩ = some (.int .u64 b) ∧ w'.cell? ⟨n1, 3, none⟩ = some (.string nm))) (by kernel_rfl) ?_
        refine anyZ_begin (fun hcl0 => ?_)
        refine anyZ_held (by exact HSB.out _ (bdr (bre W))) (fun hHeld => ?_)
        -- 0: Op.fieldAddr 36 (Operand.tmp 1) 1
        refine' anyZ_pure (i := 0) (v := _) rfl (by rfl) (by kernel_rfl) (by kernel_rfl) (by kernel_rfl) hcl0 (fun _ _ _ h => h) (Or.inl ⟨by rfl, fun w _ => ?hp31⟩) (fun _ => hHeld) (fun hcl1 => ?rp31)
        case hp31 => (simp only [List.getElem_toArray, List.getElem_cons_zero]; first | (go_simp; with_reducible rfl) | (go_simp; done) | rfl)
        simp only [List.getElem_toArray, List.getElem_cons_zero, Act.put, List.setIfInBounds_toArray, List.set_cons_zero, List.set_cons_succ]
        -- 1: Op.load 32 (Operand.tmp 11)
        refine' anyZ_take (i := 1) (v := _) rfl (by rfl) (by kernel_rfl) (by kernel_rfl) (by kernel_rfl) hcl1 16 (by kernel_rfl) (by kernel_rfl) (fun _ _ _ h => h) (Or.inl ⟨by rfl, fun w hSw => ?hp32⟩) hHeld (fun hcl2 => ?rp32)
        case hp32 => (simp only [List.getElem_toArray, List.getElem_cons_succ, List.getElem_cons_zero]; obtain ⟨hS1, hS2, hS3, hS4⟩ := hSw; first | (go_simp; with_reducible rfl) | (go_simp; done) | rfl)
        simp only [List.getElem_toArray, List.getElem_cons_succ, List.getElem_cons_zero, Act.put, List.setIfInBounds_toArray, List.set_cons_zero, List.set_cons_succ]
        -- 2: Op.binOp BinOp.neq 32 (Operand.tmp 12) (Operand.const (Value
        refine' anyZ_pure (i := 2) (v := _) rfl (by rfl) (by kernel_rfl) (by kernel_rfl) (by kernel_rfl) hcl2 (fun _ _ _ h => h) (Or.inl ⟨by rfl, fun w _ => ?hp33⟩) (fun _ => hHeld) (fun hcl3 => ?rp33)
        case hp33 => (simp only [List.getElem_toArray, List.getElem_cons_succ, List.getElem_cons_zero]; first | (go_simp; with_reducible rfl) | (go_simp; done) | rfl)
        simp only [List.getElem_toArray, List.getElem_cons_succ, List.getElem_cons_zero, Act.put, List.setIfInBounds_toArray, List.set_cons_zero, List.set_cons_succ]
        -- 3: Op.fieldAddr 36 (Operand.tmp 1) 0
        refine' anyZ_pure (i := 3) (v := _) rfl (by rfl) (by kernel_rfl) (by kernel_rfl) (by kernel_rfl) hcl3 (fun _ _ _ h => h) (Or.inl ⟨by rfl, fun w _ => ?hp34⟩) (fun _ => hHeld) (fun hcl4 => ?rp34)
        case hp34 => (simp only [List.getElem_toArray, List.getElem_cons_succ, List.getElem_cons_zero]; first | (go_simp; with_reducible rfl) | (go_simp; done) | rfl)
        simp only [List.getElem_toArray, List.getElem_cons_succ, List.getElem_cons_zero, Act.put, List.setIfInBounds_toArray, List.set_cons_zero, List.set_cons_succ]
        -- 4: Op.load 5 (Operand.tmp 14)
        refine' anyZ_take (i := 4) (v := _) rfl (by rfl) (by kernel_rfl) (by kernel_rfl) (by kernel_rfl) hcl4 16 (by kernel_rfl) (by kernel_rfl) (fun _ _ _ h => h) (Or.inl ⟨by rfl, fun w hSw => ?hp35⟩) hHeld (fun hcl5 => ?rp35)
        case hp35 => (simp only [List.getElem_toArray, List.getElem_cons_succ, List.getElem_cons_zero]; obtain ⟨hS1, hS2, hS3, hS4⟩ := hSw; first | (go_simp; with_reducible rfl) | (go_simp; done) | rfl)
        simp only [List.getElem_toArray, List.getElem_cons_succ, List.getElem_cons_zero, Act.put, List.setIfInBounds_toArray, List.set_cons_zero, List.set_cons_succ]
        -- 5: Op.binOp BinOp.neq 5 (Operand.tmp 15) (Operand.const (Value.
        refine' anyZ_pure (i := 5) (v := _) rfl (by rfl) (by kernel_rfl) (by kernel_rfl) (by kernel_rfl) hcl5 (fun _ _ _ h => h) (Or.inl ⟨by rfl, fun w _ => ?hp36⟩) (fun _ => hHeld) (fun hcl6 => ?rp36)
        case hp36 => (simp only [List.getElem_toArray, List.getElem_cons_succ, List.getElem_cons_zero]; first | (go_simp; with_reducible rfl) | (go_simp; done) | rfl)
        simp only [List.getElem_toArray, List.getElem_cons_succ, List.getElem_cons_zero, Act.put, List.setIfInBounds_toArray, List.set_cons_zero, List.set_cons_succ]
        -- 6: Op.binOp BinOp.eql 4 (Operand.tmp 13) (Operand.tmp 16) 4
        refine' anyZ_pure (i := 6) (v := _) rfl (by rfl) (by kernel_rfl) (by kernel_rfl) (by kernel_rfl) hcl6 (fun _ _ _ h => h) (Or.inl ⟨by rfl, fun w _ => ?hp37⟩) (fun _ => hHeld) (fun hcl7 => ?rp37)
        case hp37 => (simp only [List.getElem_toArray, List.getElem_cons_succ, List.getElem_cons_zero]; first | (go_simp; with_reducible rfl) | (go_simp; done) | rfl)
        simp only [List.getElem_toArray, List.getElem_cons_succ, List.getElem_cons_zero, Act.put, List.setIfInBounds_toArray, List.set_cons_zero, List.set_cons_succ]
        -- 7: Op.move (Operand.tmp 17)
        refine' anyZ_pure (i := 7) (v := _) rfl (by rfl) (by kernel_rfl) (by kernel_rfl) (by kernel_rfl) hcl7 (fun _ _ _ h => h) (Or.inl ⟨by rfl, fun w _ => ?hp38⟩) (fun _ => hHeld) (fun hcl8 => ?rp38)
        case hp38 => (simp only [List.getElem_toArray, List.getElem_cons_succ, List.getElem_cons_zero]; first | (go_simp; with_reducible rfl) | (go_simp; done) | rfl)
        simp only [List.getElem_toArray, List.getElem_cons_succ, List.getElem_cons_zero, Act.put, List.setIfInBounds_toArray, List.set_cons_zero, List.set_cons_succ]
        -- 8: Op.fieldAddr 36 (Operand.tmp 1) 2
        refine' anyZ_pure (i := 8) (v := _) rfl (by rfl) (by kernel_rfl) (by kernel_rfl) (by kernel_rfl) hcl8 (fun _ _ _ h => h) (Or.inl ⟨by rfl, fun w _ => ?hp39⟩) (fun _ => hHeld) (fun hcl9 => ?rp39)
        case hp39 => (simp only [List.getElem_toArray, List.getElem_cons_succ, List.getElem_cons_zero]; first | (go_simp; with_reducible rfl) | (go_simp; done) | rfl)
        simp only [List.getElem_toArray, List.getElem_cons_succ, List.getElem_cons_zero, Act.put, List.setIfInBounds_toArray, List.set_cons_zero, List.set_cons_succ]
        -- 9: Op.load 32 (Operand.tmp 19)
        refine' anyZ_take (i := 9) (v := _) rfl (by rfl) (by kernel_rfl) (by kernel_rfl) (by kernel_rfl) hcl9 16 (by kernel_rfl) (by kernel_rfl) (fun _ _ _ h => h) (Or.inl ⟨by rfl, fun w hSw => ?hp310⟩) hHeld (fun hcl10 => ?rp310)
        case hp310 => (simp only [List.getElem_toArray, List.getElem_cons_succ, List.getElem_cons_zero]; obtain ⟨hS1, hS2, hS3, hS4⟩ := hSw; first | (go_simp; with_reducible rfl) | (go_simp; done) | rfl)
        simp only [List.getElem_toArray, List.getElem_cons_succ, List.getElem_cons_zero, Act.put, List.setIfInBounds_toArray, List.set_cons_zero, List.set_cons_succ]
        -- 10: Op.binOp BinOp.neq 32 (Operand.tmp 20) (Operand.const (Value
        refine' anyZ_pure (i := 10) (v := _) rfl (by rfl) (by kernel_rfl) (by kernel_rfl) (by kernel_rfl) hcl10 (fun _ _ _ h => h) (Or.inl ⟨by rfl, fun w _ => ?hp311⟩) (fun _ => hHeld) (fun hcl11 => ?rp311)
        case hp311 => (simp only [List.getElem_toArray, List.getElem_cons_succ, List.getElem_cons_zero]; first | (go_simp; with_reducible rfl) | (go_simp; done) | rfl)
        simp only [List.getElem_toArray, List.getElem_cons_succ, List.getElem_cons_zero, Act.put, List.setIfInBounds_toArray, List.set_cons_zero, List.set_cons_succ]
        -- 11: Op.fieldAddr 36 (Operand.tmp 1) 0
        refine' anyZ_pure (i := 11) (v := _) rfl (by rfl) (by kernel_rfl) (by kernel_rfl) (by kernel_rfl) hcl11 (fun _ _ _ h => h) (Or.inl ⟨by rfl, fun w _ => ?hp312⟩) (fun _ => hHeld) (fun hcl12 => ?rp312)
        case hp312 => (simp only [List.getElem_toArray, List.getElem_cons_succ, List.getElem_cons_zero]; first | (go_simp; with_reducible rfl) | (go_simp; done) | rfl)
        simp only [List.getElem_toArray, List.getElem_cons_succ, List.getElem_cons_zero, Act.put, List.setIfInBounds_toArray, List.set_cons_zero, List.set_cons_succ]
        -- 12: Op.load 5 (Operand.tmp 22)
        refine' anyZ_take (i := 12) (v := _) rfl (by rfl) (by kernel_rfl) (by kernel_rfl) (by kernel_rfl) hcl12 16 (by kernel_rfl) (by kernel_rfl) (fun _ _ _ h => h) (Or.inl ⟨by rfl, fun w hSw => ?hp313⟩) hHeld (fun hcl13 => ?rp313)
        case hp313 => (simp only [List.getElem_toArray, List.getElem_cons_succ, List.getElem_cons_zero]; obtain ⟨hS1, hS2, hS3, hS4⟩ := hSw; first | (go_simp; with_reducible rfl) | (go_simp; done) | rfl)
        simp only [List.getElem_toArray, List.getElem_cons_succ, List.getElem_cons_zero, Act.put, List.setIfInBounds_toArray, List.set_cons_zero, List.set_cons_succ]
        -- 13: Op.call { callee := Callee.value (Operand.func 34), args := 
        refine anyZ_oneG (i := 13) hcl13 (by kernel_rfl) (by simp only [List.getElem?_toArray, List.getElem?_cons_succ, List.getElem?_cons_zero]; rfl) (by rfl) (fun hcl14 K hK => ?_)
        go_simp
        refine (HIS1.out _).mono ?_
        rintro e wa ⟨rfl, hwa⟩
        have hwa' := hwa.symm
        subst hwa'
        clear hwa
        refine hK _ _ (fun _ => ?_) ?_
        · exact HSB.out _ (bdr (bre W))
        clear hK K hHeld
        have hHeld := (HSB.out _ (bdr (bre W)))
        try simp only [Act.put, List.setIfInBounds_toArray, List.set_cons_zero, List.set_cons_succ]
        -- 14: Op.binOp BinOp.eql 4 (Operand.tmp 21) (Operand.tmp 24) 4
        refine' anyZ_pure (i := 14) (v := _) rfl (by rfl) (by kernel_rfl) (by kernel_rfl) (by kernel_rfl) hcl14 (fun _ _ _ h => h) (Or.inl ⟨by rfl, fun w _ => ?hp315⟩) (fun _ => hHeld) (fun hcl15 => ?rp315)
        case hp315 => (simp only [List.getElem_toArray, List.getElem_cons_succ, List.getElem_cons_zero]; first | (go_simp; with_reducible rfl) | (go_simp; done) | rfl)
        simp only [List.getElem_toArray, List.getElem_cons_succ, List.getElem_cons_zero, Act.put, List.setIfInBounds_toArray, List.set_cons_zero, List.set_cons_succ]
        -- 15: Op.pick (Operand.tmp 18) (Operand.tmp 25) (Operand.const (Va
        refine' anyZ_pure (i := 15) (v := _) rfl (by rfl) (by kernel_rfl) (by kernel_rfl) (by kernel_rfl) hcl15 (fun _ _ _ h => h) (Or.inl ⟨by rfl, fun w _ => ?hp316⟩) (fun _ => hHeld) (fun hcl16 => ?rp316)
        case hp316 => (simp only [List.getElem_toArray, List.getElem_cons_succ, List.getElem_cons_zero]; first | (go_simp; with_reducible rfl) | (go_simp; done) | rfl)
        simp only [List.getElem_toArray, List.getElem_cons_succ, List.getElem_cons_zero, Act.put, List.setIfInBounds_toArray, List.set_cons_zero, List.set_cons_succ]
        -- 16: Op.move (Operand.tmp 26)
        refine' anyZ_pure (i := 16) (v := _) rfl (by rfl) (by kernel_rfl) (by kernel_rfl) (by kernel_rfl) hcl16 (fun _ _ _ h => h) (Or.inl ⟨by rfl, fun w _ => ?hp317⟩) (fun _ => hHeld) (fun hcl17 => ?rp317)
        case hp317 => (simp only [List.getElem_toArray, List.getElem_cons_succ, List.getElem_cons_zero]; first | (go_simp; with_reducible rfl) | (go_simp; done) | rfl)
        simp only [List.getElem_toArray, List.getElem_cons_succ, List.getElem_cons_zero, Act.put, List.setIfInBounds_toArray, List.set_cons_zero, List.set_cons_succ]
        -- 17: Op.fieldAddr 36 (Operand.tmp 1) 3
        refine' anyZ_pure (i := 17) (v := _) rfl (by rfl) (by kernel_rfl) (by kernel_rfl) (by kernel_rfl) hcl17 (fun _ _ _ h => h) (Or.inl ⟨by rfl, fun w _ => ?hp318⟩) (fun _ => hHeld) (fun hcl18 => ?rp318)
        case hp318 => (simp only [List.getElem_toArray, List.getElem_cons_succ, List.getElem_cons_zero]; first | (go_simp; with_reducible rfl) | (go_simp; done) | rfl)
        simp only [List.getElem_toArray, List.getElem_cons_succ, List.getElem_cons_zero, Act.put, List.setIfInBounds_toArray, List.set_cons_zero, List.set_cons_succ]
        -- 18: Op.load 9 (Operand.tmp 28)
        refine' anyZ_take (i := 18) (v := _) rfl (by rfl) (by kernel_rfl) (by kernel_rfl) (by kernel_rfl) hcl18 16 (by kernel_rfl) (by kernel_rfl) (fun _ _ _ h => h) (Or.inl ⟨by rfl, fun w hSw => ?hp319⟩) hHeld (fun hcl19 => ?rp319)
        case hp319 => (simp only [List.getElem_toArray, List.getElem_cons_succ, List.getElem_cons_zero]; obtain ⟨hS1, hS2, hS3, hS4⟩ := hSw; first | (go_simp; with_reducible rfl) | (go_simp; done) | rfl)
        simp only [List.getElem_toArray, List.getElem_cons_succ, List.getElem_cons_zero, Act.put, List.setIfInBounds_toArray, List.set_cons_zero, List.set_cons_succ]
        -- 19: Op.binOp BinOp.neq 9 (Operand.tmp 29) (Operand.const (Value.
        refine' anyZ_pure (i := 19) (v := _) rfl (by rfl) (by kernel_rfl) (by kernel_rfl) (by kernel_rfl) hcl19 (fun _ _ _ h => h) (Or.inl ⟨by rfl, fun w _ => ?hp320⟩) (fun _ => hHeld) (fun hcl20 => ?rp320)
        case hp320 => (simp only [List.getElem_toArray, List.getElem_cons_succ, List.getElem_cons_zero]; first | (go_simp; with_reducible rfl) | (go_simp; done) | rfl)
        simp only [List.getElem_toArray, List.getElem_cons_succ, List.getElem_cons_zero, Act.put, List.setIfInBounds_toArray, List.set_cons_zero, List.set_cons_succ]
        -- 20: Op.fieldAddr 36 (Operand.tmp 1) 0
        refine' anyZ_pure (i := 20) (v := _) rfl (by rfl) (by kernel_rfl) (by kernel_rfl) (by kernel_rfl) hcl20 (fun _ _ _ h => h) (Or.inl ⟨by rfl, fun w _ => ?hp321⟩) (fun _ => hHeld) (fun hcl21 => ?rp321)
        case hp321 => (simp only [List.getElem_toArray, List.getElem_cons_succ, List.getElem_cons_zero]; first | (go_simp; with_reducible rfl) | (go_simp; done) | rfl)
        simp only [List.getElem_toArray, List.getElem_cons_succ, List.getElem_cons_zero, Act.put, List.setIfInBounds_toArray, List.set_cons_zero, List.set_cons_succ]
        -- 21: Op.load 5 (Operand.tmp 31)
        refine' anyZ_take (i := 21) (v := _) rfl (by rfl) (by kernel_rfl) (by kernel_rfl) (by kernel_rfl) hcl21 16 (by kernel_rfl) (by kernel_rfl) (fun _ _ _ h => h) (Or.inl ⟨by rfl, fun w hSw => ?hp322⟩) hHeld (fun hcl22 => ?rp322)
        case hp322 => (simp only [List.getElem_toArray, List.getElem_cons_succ, List.getElem_cons_zero]; obtain ⟨hS1, hS2, hS3, hS4⟩ := hSw; first | (go_simp; with_reducible rfl) | (go_simp; done) | rfl)
        simp only [List.getElem_toArray, List.getElem_cons_succ, List.getElem_cons_zero, Act.put, List.setIfInBounds_toArray, List.set_cons_zero, List.set_cons_succ]
        -- 22: Op.call { callee := Callee.value (Operand.func 34), args := 
        refine anyZ_oneG (i := 22) hcl22 (by kernel_rfl) (by simp only [List.getElem?_toArray, List.getElem?_cons_succ, List.getElem?_cons_zero]; rfl) (by rfl) (fun hcl23 K hK => ?_)
        go_simp
        refine (HIS2.out _).mono ?_
        rintro e wa ⟨rfl, hwa⟩
        have hwa' := hwa.symm
        subst hwa'
        clear hwa
        refine hK _ _ (fun _ => ?_) ?_
        · exact HSB.out _ (bdr (bre W))
        clear hK K hHeld
        have hHeld := (HSB.out _ (bdr (bre W)))
        try simp only [Act.put, List.setIfInBounds_toArray, List.set_cons_zero, List.set_cons_succ]
        -- 23: Op.binOp BinOp.eql 4 (Operand.tmp 30) (Operand.tmp 33) 4
        refine' anyZ_pure (i := 23) (v := _) rfl (by rfl) (by kernel_rfl) (by kernel_rfl) (by kernel_rfl) hcl23 (fun _ _ _ h => h) (Or.inl ⟨by rfl, fun w _ => ?hp324⟩) (fun _ => hHeld) (fun hcl24 => ?rp324)
        case hp324 => (simp only [List.getElem_toArray, List.getElem_cons_succ, List.getElem_cons_zero]; first | (go_simp; with_reducible rfl) | (go_simp; done) | rfl)
        simp only [List.getElem_toArray, List.getElem_cons_succ, List.getElem_cons_zero, Act.put, List.setIfInBounds_toArray, List.set_cons_zero, List.set_cons_succ]
        -- 24: Op.pick (Operand.tmp 27) (Operand.tmp 34) (Operand.const (Va
        refine' anyZ_pure (i := 24) (v := _) rfl (by rfl) (by kernel_rfl) (by kernel_rfl) (by kernel_rfl) hcl24 (fun _ _ _ h => h) (Or.inl ⟨by rfl, fun w _ => ?hp325⟩) (fun _ => hHeld) (fun hcl25 => ?rp325)
        case hp325 => (simp only [List.getElem_toArray, List.getElem_cons_succ, List.getElem_cons_zero]; first | (go_simp; with_reducible rfl) | (go_simp; done) | rfl)
        simp only [List.getElem_toArray, List.getElem_cons_succ, List.getElem_cons_zero, Act.put, List.setIfInBounds_toArray, List.set_cons_zero, List.set_cons_succ]
        -- 25: Op.move (Operand.tmp 35)
        refine' anyZ_pure (i := 25) (v := _) rfl (by rfl) (by kernel_rfl) (by kernel_rfl) (by kernel_rfl) hcl25 (fun _ _ _ h => h) (Or.inl ⟨by rfl, fun w _ => ?hp326⟩) (fun _ => hHeld) (fun hcl26 => ?rp326)
        case hp326 => (simp only [List.getElem_toArray, List.getElem_cons_succ, List.getElem_cons_zero]; first | (go_simp; with_reducible rfl) | (go_simp; done) | rfl)
        simp only [List.getElem_toArray, List.getElem_cons_succ, List.getElem_cons_zero, Act.put, List.setIfInBounds_toArray, List.set_cons_zero, List.set_cons_succ]
        -- 26 (not wanted): Op.fieldAddr 36 (Operand.tmp 1) 3
        refine anyZ_oneSkip (i := 26) hcl26 (by kernel_rfl) (by simp only [List.getElem?_toArray, List.getElem?_cons_succ, List.getElem?_cons_zero]; rfl) (by rfl) (fun _ => hHeld) (fun hcl27 => ?_)
        simp only [Act.put, List.setIfInBounds_toArray, List.set_cons_zero, List.set_cons_succ]
        -- 27 (not wanted): Op.load 9 (Operand.tmp 37)
        refine anyZ_oneSkip (i := 27) hcl27 (by kernel_rfl) (by simp only [List.getElem?_toArray, List.getElem?_cons_succ, List.getElem?_cons_zero]; rfl) (by rfl) (fun _ => hHeld) (fun hcl28 => ?_)
        simp only [Act.put, List.setIfInBounds_toArray, List.set_cons_zero, List.set_cons_succ]
        -- 28 (not wanted): Op.binOp BinOp.eql 9 (Operand.tmp 38) (Operand.const (Value.
        refine anyZ_oneSkip (i := 28) hcl28 (by kernel_rfl) (by simp only [List.getElem?_toArray, List.getElem?_cons_succ, List.getElem?_cons_zero]; rfl) (by rfl) (fun _ => hHeld) (fun hcl29 => ?_)
        simp only [Act.put, List.setIfInBounds_toArray, List.set_cons_zero, List.set_cons_succ]
        -- 29 (not wanted): Op.move (Operand.tmp 39)
        refine anyZ_oneSkip (i := 29) hcl29 (by kernel_rfl) (by simp only [List.getElem?_toArray, List.getElem?_cons_succ, List.getElem?_cons_zero]; rfl) (by rfl) (fun _ => hHeld) (fun hcl30 => ?_)
        simp only [Act.put, List.setIfInBounds_toArray, List.set_cons_zero, List.set_cons_succ]
        -- 30 (not wanted): Op.fieldAddr 36 (Operand.tmp 1) 3
        refine anyZ_oneSkip (i := 30) hcl30 (by kernel_rfl) (by simp only [List.getElem?_toArray, List.getElem?_cons_succ, List.getElem?_cons_zero]; rfl) (by rfl) (fun _ => hHeld) (fun hcl31 => ?_)
        simp only [Act.put, List.setIfInBounds_toArray, List.set_cons_zero, List.set_cons_succ]
        -- 31 (not wanted): Op.load 9 (Operand.tmp 41)
        refine anyZ_oneSkip (i := 31) hcl31 (by kernel_rfl) (by simp only [List.getElem?_toArray, List.getElem?_cons_succ, List.getElem?_cons_zero]; rfl) (by rfl) (fun _ => hHeld) (fun hcl32 => ?_)
        simp only [Act.put, List.setIfInBounds_toArray, List.set_cons_zero, List.set_cons_succ]
        -- 32 (not wanted): Op.call { callee := Callee.value (Operand.func 40), args := 
        refine anyZ_oneSkip (i := 32) hcl32 (by kernel_rfl) (by simp only [List.getElem?_toArray, List.getElem?_cons_succ, List.getElem?_cons_zero]; rfl) (by rfl) (fun _ => hHeld) (fun hcl33 => ?_)
        simp only [Act.put, List.setIfInBounds_toArray, List.set_cons_zero, List.set_cons_succ]
        -- 33 (not wanted): Op.pick (Operand.tmp 40) (Operand.const (Value.bool true)) (
        refine anyZ_oneSkip (i := 33) hcl33 (by kernel_rfl) (by simp only [List.getElem?_toArray, List.getElem?_cons_succ, List.getElem?_cons_zero]; rfl) (by rfl) (fun _ => hHeld) (fun hcl34 => ?_)
        simp only [Act.put, List.setIfInBounds_toArray, List.set_cons_zero, List.set_cons_succ]
        -- 34: Op.pick (Operand.tmp 36) (Operand.tmp 44) (Operand.const (Va
        refine' anyZ_pure (i := 34) (v := _) rfl (by rfl) (by kernel_rfl) (by kernel_rfl) (by kernel_rfl) hcl34 (fun _ _ _ h => h) (Or.inl ⟨by rfl, fun w _ => ?hp335⟩) (fun _ => hHeld) (fun hcl35 => ?rp335)
        case hp335 => (simp only [List.getElem_toArray, List.getElem_cons_succ, List.getElem_cons_zero]; first | (go_simp; with_reducible rfl) | (go_simp; done) | rfl)
        simp only [List.getElem_toArray, List.getElem_cons_succ, List.getElem_cons_zero, Act.put, List.setIfInBounds_toArray, List.set_cons_zero, List.set_cons_succ]
        clear hHeld
        refine anyZ_chain_at (by kernel_rfl) ?_
        simp only [List.drop_succ_cons, List.drop_zero]
        go_wp2_with fail
        go_ret
        exact ⟨rfl, HB0.out.trans (((bdr (bre W))).mono HB0.out.size)⟩
      | true =>
        have q3 : decide (N = T2) = true := by rw [← p3]; cases N <;> cases T2 <;> rfl
        rw [p3, Bool.true_and] at hx2
        cases N with
        | false =>
          have hr : x = true := by rw [hx2]; rfl
          subst hr
          clear hx2
          refine region_anyZ (z := 35) (S := fun w' => (w'.cell? ⟨n1, 0, none⟩ = some (.int .u8 k) ∧ w'.cell? ⟨n1, 1, none⟩ = some (.int .u64 a) ∧ w'.cell? ⟨n1, 2, none⟩ = some (.int .u64 b) ∧ w'.cell? ⟨n1, 3, none⟩ = some (.string nm))) (by kernel_rfl) ?_
          refine anyZ_begin (fun hcl0 => ?_)
          refine anyZ_held (by exact HSB.out _ (bdr (bre W))) (fun hHeld => ?_)
          -- 0: Op.fieldAddr 36 (Operand.tmp 1) 1
          refine' anyZ_pure (i := 0) (v := _) rfl (by rfl) (by kernel_rfl) (by kernel_rfl) (by kernel_rfl) hcl0 (fun _ _ _ h => h) (Or.inl ⟨by rfl, fun w _ => ?hp41⟩) (fun _ => hHeld) (fun hcl1 => ?rp41)
          case hp41 => (simp only [List.getElem_toArray, List.getElem_cons_zero]; first | (go_simp; with_reducible rfl) | (go_simp; done) | rfl)
          simp only [List.getElem_toArray, List.getElem_cons_zero, Act.put, List.setIfInBounds_toArray, List.set_cons_zero, List.set_cons_succ]
          -- 1: Op.load 32 (Operand.tmp 11)
          refine' anyZ_take (i := 1) (v := _) rfl (by rfl) (by kernel_rfl) (by kernel_rfl) (by kernel_rfl) hcl1 16 (by kernel_rfl) (by kernel_rfl) (fun _ _ _ h => h) (Or.inl ⟨by rfl, fun w hSw => ?hp42⟩) hHeld (fun hcl2 => ?rp42)
          case hp42 => (simp only [List.getElem_toArray, List.getElem_cons_succ, List.getElem_cons_zero]; obtain ⟨hS1, hS2, hS3, hS4⟩ := hSw; first | (go_simp; with_reducible rfl) | (go_simp; done) | rfl)
          simp only [List.getElem_toArray, List.getElem_cons_succ, List.getElem_cons_zero, Act.put, List.setIfInBounds_toArray, List.set_cons_zero, List.set_cons_succ]
          -- 2: Op.binOp BinOp.neq 32 (Operand.tmp 12) (Operand.const (Value
          refine' anyZ_pure (i := 2) (v := _) rfl (by rfl) (by kernel_rfl) (by kernel_rfl) (by kernel_rfl) hcl2 (fun _ _ _ h => h) (Or.inl ⟨by rfl, fun w _ => ?hp43⟩) (fun _ => hHeld) (fun hcl3 => ?rp43)
          case hp43 => (simp only [List.getElem_toArray, List.getElem_cons_succ, List.getElem_cons_zero]; first | (go_simp; with_reducible rfl) | (go_simp; done) | rfl)
          simp only [List.getElem_toArray, List.getElem_cons_succ, List.getElem_cons_zero, Act.put, List.setIfInBounds_toArray, List.set_cons_zero, List.set_cons_succ]
          -- 3: Op.fieldAddr 36 (Operand.tmp 1) 0
          refine' anyZ_pure (i := 3) (v := _) rfl (by rfl) (by kernel_rfl) (by kernel_rfl) (by kernel_rfl) hcl3 (fun _ _ _ h => h) (Or.inl ⟨by rfl, fun w _ => ?hp44⟩) (fun _ => hHeld) (fun hcl4 => ?rp44)
          case hp44 => (simp only [List.getElem_toArray, List.getElem_cons_succ, List.getElem_cons_zero]; first | (go_simp; with_reducible rfl) | (go_simp; done) | rfl)
          simp only [List.getElem_toArray, List.getElem_cons_succ, List.getElem_cons_zero, Act.put, List.setIfInBounds_toArray, List.set_cons_zero, List.set_cons_succ]
          -- 4: Op.load 5 (Operand.tmp 14)
          refine' anyZ_take (i := 4) (v := _) rfl (by rfl) (by kernel_rfl) (by kernel_rfl) (by kernel_rfl) hcl4 16 (by kernel_rfl) (by kernel_rfl) (fun _ _ _ h => h) (Or.inl ⟨by rfl, fun w hSw => ?hp45⟩) hHeld (fun hcl5 => ?rp45)
          case hp45 => (simp only [List.getElem_toArray, List.getElem_cons_succ, List.getElem_cons_zero]; obtain ⟨hS1, hS2, hS3, hS4⟩ := hSw; first | (go_simp; with_reducible rfl) | (go_simp; done) | rfl)
          simp only [List.getElem_toArray, List.getElem_cons_succ, List.getElem_cons_zero, Act.put, List.setIfInBounds_toArray, List.set_cons_zero, List.set_cons_succ]
          -- 5: Op.binOp BinOp.neq 5 (Operand.tmp 15) (Operand.const (Value.
          refine' anyZ_pure (i := 5) (v := _) rfl (by rfl) (by kernel_rfl) (by kernel_rfl) (by kernel_rfl) hcl5 (fun _ _ _ h => h) (Or.inl ⟨by rfl, fun w _ => ?hp46⟩) (fun _ => hHeld) (fun hcl6 => ?rp46)
          case hp46 => (simp only [List.getElem_toArray, List.getElem_cons_succ, List.getElem_cons_zero]; first | (go_simp; with_reducible rfl) | (go_simp; done) | rfl)
          simp only [List.getElem_toArray, List.getElem_cons_succ, List.getElem_cons_zero, Act.put, List.setIfInBounds_toArray, List.set_cons_zero, List.set_cons_succ]
          -- 6: Op.binOp BinOp.eql 4 (Operand.tmp 13) (Operand.tmp 16) 4
          refine' anyZ_pure (i := 6) (v := _) rfl (by rfl) (by kernel_rfl) (by kernel_rfl) (by kernel_rfl) hcl6 (fun _ _ _ h => h) (Or.inl ⟨by rfl, fun w _ => ?hp47⟩) (fun _ => hHeld) (fun hcl7 => ?rp47)
          case hp47 => (simp only [List.getElem_toArray, List.getElem_cons_succ, List.getElem_cons_zero]; first | (go_simp; with_reducible rfl) | (go_simp; done) | rfl)
          simp only [List.getElem_toArray, List.getElem_cons_succ, List.getElem_cons_zero, Act.put, List.setIfInBounds_toArray, List.set_cons_zero, List.set_cons_succ]
          -- 7: Op.move (Operand.tmp 17)
          refine' anyZ_pure (i := 7) (v := _) rfl (by rfl) (by kernel_rfl) (by kernel_rfl) (by kernel_rfl) hcl7 (fun _ _ _ h => h) (Or.inl ⟨by rfl, fun w _ => ?hp48⟩) (fun _ => hHeld) (fun hcl8 => ?rp48)
          case hp48 => (simp only [List.getElem_toArray, List.getElem_cons_succ, List.getElem_cons_zero]; first | (go_simp; with_reducible rfl) | (go_simp; done) | rfl)
          simp only [List.getElem_toArray, List.getElem_cons_succ, List.getElem_cons_zero, Act.put, List.setIfInBounds_toArray, List.set_cons_zero, List.set_cons_succ]
          -- 8: Op.fieldAddr 36 (Operand.tmp 1) 2
          refine' anyZ_pure (i := 8) (v := _) rfl (by rfl) (by kernel_rfl) (by kernel_rfl) (by kernel_rfl) hcl8 (fun _ _ _ h => h) (Or.inl ⟨by rfl, fun w _ => ?hp49⟩) (fun _ => hHeld) (fun hcl9 => ?rp49)
          case hp49 => (simp only [List.getElem_toArray, List.getElem_cons_succ, List.getElem_cons_zero]; first | (go_simp; with_reducible rfl) | (go_simp; done) | rfl)
          simp only [List.getElem_toArray, List.getElem_cons_succ, List.getElem_cons_zero, Act.put, List.setIfInBounds_toArray, List.set_cons_zero, List.set_cons_succ]
          -- 9: Op.load 32 (Operand.tmp 19)
          refine' anyZ_take (i := 9) (v := _) rfl (by rfl) (by kernel_rfl) (by kernel_rfl) (by kernel_rfl) hcl9 16 (by kernel_rfl) (by kernel_rfl) (fun _ _ _ h => h) (Or.inl ⟨by rfl, fun w hSw => ?hp410⟩) hHeld (fun hcl10 => ?rp410)
          case hp410 => (simp only [List.getElem_toArray, List.getElem_cons_succ, List.getElem_cons_zero]; obtain ⟨hS1, hS2, hS3, hS4⟩ := hSw; first | (go_simp; with_reducible rfl) | (go_simp; done) | rfl)
          simp only [List.getElem_toArray, List.getElem_cons_succ, List.getElem_cons_zero, Act.put, List.setIfInBounds_toArray, List.set_cons_zero, List.set_cons_succ]
          -- 10: Op.binOp BinOp.neq 32 (Operand.tmp 20) (Operand.const (Value
          refine' anyZ_pure (i := 10) (v := _) rfl (by rfl) (by kernel_rfl) (by kernel_rfl) (by kernel_rfl) hcl10 (fun _ _ _ h => h) (Or.inl ⟨by rfl, fun w _ => ?hp411⟩) (fun _ => hHeld) (fun hcl11 => ?rp411)
          case hp411 => (simp only [List.getElem_toArray, List.getElem_cons_succ, List.getElem_cons_zero]; first | (go_simp; with_reducible rfl) | (go_simp; done) | rfl)
          simp only [List.getElem_toArray, List.getElem_cons_succ, List.getElem_cons_zero, Act.put, List.setIfInBounds_toArray, List.set_cons_zero, List.set_cons_succ]
          -- 11: Op.fieldAddr 36 (Operand.tmp 1) 0
          refine' anyZ_pure (i := 11) (v := _) rfl (by rfl) (by kernel_rfl) (by kernel_rfl) (by kernel_rfl) hcl11 (fun _ _ _ h => h) (Or.inl ⟨by rfl, fun w _ => ?hp412⟩) (fun _ => hHeld) (fun hcl12 => ?rp412)
          case hp412 => (simp only [List.getElem_toArray, List.getElem_cons_succ, List.getElem_cons_zero]; first | (go_simp; with_reducible rfl) | (go_simp; done) | rfl)
          simp only [List.getElem_toArray, List.getElem_cons_succ, List.getElem_cons_zero, Act.put, List.setIfInBounds_toArray, List.set_cons_zero, List.set_cons_succ]
          -- 12: Op.load 5 (Operand.tmp 22)
          refine' anyZ_take (i := 12) (v := _) rfl (by rfl) (by kernel_rfl) (by kernel_rfl) (by kernel_rfl) hcl12 16 (by kernel_rfl) (by kernel_rfl) (fun _ _ _ h => h) (Or.inl ⟨by rfl, fun w hSw => ?hp413⟩) hHeld (fun hcl13 => ?rp413)
          case hp413 => (simp only [List.getElem_toArray, List.getElem_cons_succ, List.getElem_cons_zero]; obtain ⟨hS1, hS2, hS3, hS4⟩ := hSw; first | (go_simp; with_reducible rfl) | (go_simp; done) | rfl)
          simp only [List.getElem_toArray, List.getElem_cons_succ, List.getElem_cons_zero, Act.put, List.setIfInBounds_toArray, List.set_cons_zero, List.set_cons_succ]
          -- 13: Op.call { callee := Callee.value (Operand.func 34), args := 
          refine anyZ_oneG (i := 13) hcl13 (by kernel_rfl) (by simp only [List.getElem?_toArray, List.getElem?_cons_succ, List.getElem?_cons_zero]; rfl) (by rfl) (fun hcl14 K hK => ?_)
          go_simp
          refine (HIS1.out _).mono ?_
          rintro e wa ⟨rfl, hwa⟩
          have hwa' := hwa.symm
          subst hwa'
          clear hwa
          refine hK _ _ (fun _ => ?_) ?_
          · exact HSB.out _ (bdr (bre W))
          clear hK K hHeld
          have hHeld := (HSB.out _ (bdr (bre W)))
          try simp only [Act.put, List.setIfInBounds_toArray, List.set_cons_zero, List.set_cons_succ]
          -- 14: Op.binOp BinOp.eql 4 (Operand.tmp 21) (Operand.tmp 24) 4
          refine' anyZ_pure (i := 14) (v := _) rfl (by rfl) (by kernel_rfl) (by kernel_rfl) (by kernel_rfl) hcl14 (fun _ _ _ h => h) (Or.inl ⟨by rfl, fun w _ => ?hp415⟩) (fun _ => hHeld) (fun hcl15 => ?rp415)
          case hp415 => (simp only [List.getElem_toArray, List.getElem_cons_succ, List.getElem_cons_zero]; first | (go_simp; with_reducible rfl) | (go_simp; done) | rfl)
          simp only [List.getElem_toArray, List.getElem_cons_succ, List.getElem_cons_zero, Act.put, List.setIfInBounds_toArray, List.set_cons_zero, List.set_cons_succ]
          -- 15: Op.pick (Operand.tmp 18) (Operand.tmp 25) (Operand.const (Va
          refine' anyZ_pure (i := 15) (v := _) rfl (by rfl) (by kernel_rfl) (by kernel_rfl) (by kernel_rfl) hcl15 (fun _ _ _ h => h) (Or.inl ⟨by rfl, fun w _ => ?hp416⟩) (fun _ => hHeld) (fun hcl16 => ?rp416)
          case hp416 => (simp only [List.getElem_toArray, List.getElem_cons_succ, List.getElem_cons_zero]; first | (go_simp; with_reducible rfl) | (go_simp; done) | rfl)
          simp only [List.getElem_toArray, List.getElem_cons_succ, List.getElem_cons_zero, Act.put, List.setIfInBounds_toArray, List.set_cons_zero, List.set_cons_succ]
          -- 16: Op.move (Operand.tmp 26)
          refine' anyZ_pure (i := 16) (v := _) rfl (by rfl) (by kernel_rfl) (by kernel_rfl) (by kernel_rfl) hcl16 (fun _ _ _ h => h) (Or.inl ⟨by rfl, fun w _ => ?hp417⟩) (fun _ => hHeld) (fun hcl17 => ?rp417)
          case hp417 => (simp only [List.getElem_toArray, List.getElem_cons_succ, List.getElem_cons_zero]; first | (go_simp; with_reducible rfl) | (go_simp; done) | rfl)
          simp only [List.getElem_toArray, List.getElem_cons_succ, List.getElem_cons_zero, Act.put, List.setIfInBounds_toArray, List.set_cons_zero, List.set_cons_succ]
          -- 17: Op.fieldAddr 36 (Operand.tmp 1) 3
          refine' anyZ_pure (i := 17) (v := _) rfl (by rfl) (by kernel_rfl) (by kernel_rfl) (by kernel_rfl) hcl17 (fun _ _ _ h => h) (Or.inl ⟨by rfl, fun w _ => ?hp418⟩) (fun _ => hHeld) (fun hcl18 => ?rp418)
          case hp418 => (simp only [List.getElem_toArray, List.getElem_cons_succ, List.getElem_cons_zero]; first | (go_simp; with_reducible rfl) | (go_simp; done) | rfl)
          simp only [List.getElem_toArray, List.getElem_cons_succ, List.getElem_cons_zero, Act.put, List.setIfInBounds_toArray, List.set_cons_zero, List.set_cons_succ]
          -- 18: Op.load 9 (Operand.tmp 28)
          refine' anyZ_take (i := 18) (v := _) rfl (by rfl) (by kernel_rfl) (by kernel_rfl) (by kernel_rfl) hcl18 16 (by kernel_rfl) (by kernel_rfl) (fun _ _ _ h => h) (Or.inl ⟨by rfl, fun w hSw => ?hp419⟩) hHeld (fun hcl19 => ?rp419)
          case hp419 => (simp only [List.getElem_toArray, List.getElem_cons_succ, List.getElem_cons_zero]; obtain ⟨hS1, hS2, hS3, hS4⟩ := hSw; first | (go_simp; with_reducible rfl) | (go_simp; done) | rfl)
          simp only [List.getElem_toArray, List.getElem_cons_succ, List.getElem_cons_zero, Act.put, List.setIfInBounds_toArray, List.set_cons_zero, List.set_cons_succ]
          -- 19: Op.binOp BinOp.neq 9 (Operand.tmp 29) (Operand.const (Value.
          refine' anyZ_pure (i := 19) (v := _) rfl (by rfl) (by kernel_rfl) (by kernel_rfl) (by kernel_rfl) hcl19 (fun _ _ _ h => h) (Or.inl ⟨by rfl, fun w _ => ?hp420⟩) (fun _ => hHeld) (fun hcl20 => ?rp420)
          case hp420 => (simp only [List.getElem_toArray, List.getElem_cons_succ, List.getElem_cons_zero]; first | (go_simp; with_reducible rfl) | (go_simp; done) | rfl)
          simp only [List.getElem_toArray, List.getElem_cons_succ, List.getElem_cons_zero, Act.put, List.setIfInBounds_toArray, List.set_cons_zero, List.set_cons_succ]
          -- 20: Op.fieldAddr 36 (Operand.tmp 1) 0
          refine' anyZ_pure (i := 20) (v := _) rfl (by rfl) (by kernel_rfl) (by kernel_rfl) (by kernel_rfl) hcl20 (fun _ _ _ h => h) (Or.inl ⟨by rfl, fun w _ => ?hp421⟩) (fun _ => hHeld) (fun hcl21 => ?rp421)
          case hp421 => (simp only [List.getElem_toArray, List.getElem_cons_succ, List.getElem_cons_zero]; first | (go_simp; with_reducible rfl) | (go_simp; done) | rfl)
          simp only [List.getElem_toArray, List.getElem_cons_succ, List.getElem_cons_zero, Act.put, List.setIfInBounds_toArray, List.set_cons_zero, List.set_cons_succ]
          -- 21: Op.load 5 (Operand.tmp 31)
          refine' anyZ_take (i := 21) (v := _) rfl (by rfl) (by kernel_rfl) (by kernel_rfl) (by kernel_rfl) hcl21 16 (by kernel_rfl) (by kernel_rfl) (fun _ _ _ h => h) (Or.inl ⟨by rfl, fun w hSw => ?hp422⟩) hHeld (fun hcl22 => ?rp422)
          case hp422 => (simp only [List.getElem_toArray, List.getElem_cons_succ, List.getElem_cons_zero]; obtain ⟨hS1, hS2, hS3, hS4⟩ := hSw; first | (go_simp; with_reducible rfl) | (go_simp; done) | rfl)
          simp only [List.getElem_toArray, List.getElem_cons_succ, List.getElem_cons_zero, Act.put, List.setIfInBounds_toArray, List.set_cons_zero, List.set_cons_succ]
          -- 22: Op.call { callee := Callee.value (Operand.func 34), args := 
          refine anyZ_oneG (i := 22) hcl22 (by kernel_rfl) (by simp only [List.getElem?_toArray, List.getElem?_cons_succ, List.getElem?_cons_zero]; rfl) (by rfl) (fun hcl23 K hK => ?_)
          go_simp
          refine (HIS2.out _).mono ?_
          rintro e wa ⟨rfl, hwa⟩
          have hwa' := hwa.symm
          subst hwa'
          clear hwa
          refine hK _ _ (fun _ => ?_) ?_
          · exact HSB.out _ (bdr (bre W))
          clear hK K hHeld
          have hHeld := (HSB.out _ (bdr (bre W)))
          try simp only [Act.put, List.setIfInBounds_toArray, List.set_cons_zero, List.set_cons_succ]
          -- 23: Op.binOp BinOp.eql 4 (Operand.tmp 30) (Operand.tmp 33) 4
          refine' anyZ_pure (i := 23) (v := _) rfl (by rfl) (by kernel_rfl) (by kernel_rfl) (by kernel_rfl) hcl23 (fun _ _ _ h => h) (Or.inl ⟨by rfl, fun w _ => ?hp424⟩) (fun _ => hHeld) (fun hcl24 => ?rp424)
          case hp424 => (simp only [List.getElem_toArray, List.getElem_cons_succ, List.getElem_cons_zero]; first | (go_simp; with_reducible rfl) | (go_simp; done) | rfl)
          simp only [List.getElem_toArray, List.getElem_cons_succ, List.getElem_cons_zero, Act.put, List.setIfInBounds_toArray, List.set_cons_zero, List.set_cons_succ]
          -- 24: Op.pick (Operand.tmp 27) (Operand.tmp 34) (Operand.const (Va
          refine' anyZ_pure (i := 24) (v := _) rfl (by rfl) (by kernel_rfl) (by kernel_rfl) (by kernel_rfl) hcl24 (fun _ _ _ h => h) (Or.inl ⟨by rfl, fun w _ => ?hp425⟩) (fun _ => hHeld) (fun hcl25 => ?rp425)
          case hp425 => (simp only [List.getElem_toArray, List.getElem_cons_succ, List.getElem_cons_zero]; first | (go_simp; with_reducible rfl) | (go_simp; done) | rfl)
          simp only [List.getElem_toArray, List.getElem_cons_succ, List.getElem_cons_zero, Act.put, List.setIfInBounds_toArray, List.set_cons_zero, List.set_cons_succ]
          -- 25: Op.move (Operand.tmp 35)
          refine' anyZ_pure (i := 25) (v := _) rfl (by rfl) (by kernel_rfl) (by kernel_rfl) (by kernel_rfl) hcl25 (fun _ _ _ h => h) (Or.inl ⟨by rfl, fun w _ => ?hp426⟩) (fun _ => hHeld) (fun hcl26 => ?rp426)
          case hp426 => (simp only [List.getElem_toArray, List.getElem_cons_succ, List.getElem_cons_zero]; first | (go_simp; with_reducible rfl) | (go_simp; done) | rfl)
          simp only [List.getElem_toArray, List.getElem_cons_succ, List.getElem_cons_zero, Act.put, List.setIfInBounds_toArray, List.set_cons_zero, List.set_cons_succ]
          -- 26: Op.fieldAddr 36 (Operand.tmp 1) 3
          refine' anyZ_pure (i := 26) (v := _) rfl (by rfl) (by kernel_rfl) (by kernel_rfl) (by kernel_rfl) hcl26 (fun _ _ _ h => h) (Or.inl ⟨by rfl, fun w _ => ?hp427⟩) (fun _ => hHeld) (fun hcl27 => ?rp427)
          case hp427 => (simp only [List.getElem_toArray, List.getElem_cons_succ, List.getElem_cons_zero]; first | (go_simp; with_reducible rfl) | (go_simp; done) | rfl)
          simp only [List.getElem_toArray, List.getElem_cons_succ, List.getElem_cons_zero, Act.put, List.setIfInBounds_toArray, List.set_cons_zero, List.set_cons_succ]
          -- 27: Op.load 9 (Operand.tmp 37)
          refine' anyZ_take (i := 27) (v := _) rfl (by rfl) (by kernel_rfl) (by kernel_rfl) (by kernel_rfl) hcl27 16 (by kernel_rfl) (by kernel_rfl) (fun _ _ _ h => h) (Or.inl ⟨by rfl, fun w hSw => ?hp428⟩) hHeld (fun hcl28 => ?rp428)
          case hp428 => (simp only [List.getElem_toArray, List.getElem_cons_succ, List.getElem_cons_zero]; obtain ⟨hS1, hS2, hS3, hS4⟩ := hSw; first | (go_simp; with_reducible rfl) | (go_simp; done) | rfl)
          simp only [List.getElem_toArray, List.getElem_cons_succ, List.getElem_cons_zero, Act.put, List.setIfInBounds_toArray, List.set_cons_zero, List.set_cons_succ]
          -- 28: Op.binOp BinOp.eql 9 (Operand.tmp 38) (Operand.const (Value.
          refine' anyZ_pure (i := 28) (v := _) rfl (by rfl) (by kernel_rfl) (by kernel_rfl) (by kernel_rfl) hcl28 (fun _ _ _ h => h) (Or.inl ⟨by rfl, fun w _ => ?hp429⟩) (fun _ => hHeld) (fun hcl29 => ?rp429)
          case hp429 => (simp only [List.getElem_toArray, List.getElem_cons_succ, List.getElem_cons_zero]; first | (go_simp; with_reducible rfl) | (go_simp; done) | rfl)
          simp only [List.getElem_toArray, List.getElem_cons_succ, List.getElem_cons_zero, Act.put, List.setIfInBounds_toArray, List.set_cons_zero, List.set_cons_succ]
          -- 29: Op.move (Operand.tmp 39)
          refine' anyZ_pure (i := 29) (v := _) rfl (by rfl) (by kernel_rfl) (by kernel_rfl) (by kernel_rfl) hcl29 (fun _ _ _ h => h) (Or.inl ⟨by rfl, fun w _ => ?hp430⟩) (fun _ => hHeld) (fun hcl30 => ?rp430)
          case hp430 => (simp only [List.getElem_toArray, List.getElem_cons_succ, List.getElem_cons_zero]; first | (go_simp; with_reducible rfl) | (go_simp; done) | rfl)
          simp only [List.getElem_toArray, List.getElem_cons_succ, List.getElem_cons_zero, Act.put, List.setIfInBounds_toArray, List.set_cons_zero, List.set_cons_succ]
          -- 30 (not wanted): Op.fieldAddr 36 (Operand.tmp 1) 3
          refine anyZ_oneSkip (i := 30) hcl30 (by kernel_rfl) (by simp only [List.getElem?_toArray, List.getElem?_cons_succ, List.getElem?_cons_zero]; rfl) (by rfl) (fun _ => hHeld) (fun hcl31 => ?_)
          simp only [Act.put, List.setIfInBounds_toArray, List.set_cons_zero, List.set_cons_succ]
          -- 31 (not wanted): Op.load 9 (Operand.tmp 41)
          refine anyZ_oneSkip (i := 31) hcl31 (by kernel_rfl) (by simp only [List.getElem?_toArray, List.getElem?_cons_succ, List.getElem?_cons_zero]; rfl) (by rfl) (fun _ => hHeld) (fun hcl32 => ?_)
          simp only [Act.put, List.setIfInBounds_toArray, List.set_cons_zero, List.set_cons_succ]
          -- 32 (not wanted): Op.call { callee := Callee.value (Operand.func 40), args := 
          refine anyZ_oneSkip (i := 32) hcl32 (by kernel_rfl) (by simp only [List.getElem?_toArray, List.getElem?_cons_succ, List.getElem?_cons_zero]; rfl) (by rfl) (fun _ => hHeld) (fun hcl33 => ?_)
          simp only [Act.put, List.setIfInBounds_toArray, List.set_cons_zero, List.set_cons_succ]
          -- 33: Op.pick (Operand.tmp 40) (Operand.const (Value.bool true)) (
          refine' anyZ_pure (i := 33) (v := _) rfl (by rfl) (by kernel_rfl) (by kernel_rfl) (by kernel_rfl) hcl33 (fun _ _ _ h => h) (Or.inl ⟨by rfl, fun w _ => ?hp434⟩) (fun _ => hHeld) (fun hcl34 => ?rp434)
          case hp434 => (simp only [List.getElem_toArray, List.getElem_cons_succ, List.getElem_cons_zero]; first | (go_simp; with_reducible rfl) | (go_simp; done) | rfl)
          simp only [List.getElem_toArray, List.getElem_cons_succ, List.getElem_cons_zero, Act.put, List.setIfInBounds_toArray, List.set_cons_zero, List.set_cons_succ]
          -- 34: Op.pick (Operand.tmp 36) (Operand.tmp 44) (Operand.const (Va
          refine' anyZ_pure (i := 34) (v := _) rfl (by rfl) (by kernel_rfl) (by kernel_rfl) (by kernel_rfl) hcl34 (fun _ _ _ h => h) (Or.inl ⟨by rfl, fun w _ => ?hp435⟩) (fun _ => hHeld) (fun hcl35 => ?rp435)
          case hp435 => (simp only [List.getElem_toArray, List.getElem_cons_succ, List.getElem_cons_zero]; first | (go_simp; with_reducible rfl) | (go_simp; done) | rfl)
          simp only [List.getElem_toArray, List.getElem_cons_succ, List.getElem_cons_zero, Act.put, List.setIfInBounds_toArray, List.set_cons_zero, List.set_cons_succ]
          clear hHeld
          refine anyZ_chain_at (by kernel_rfl) ?_
          simp only [List.drop_succ_cons, List.drop_zero]
          go_wp2_with fail
          go_ret
          exact ⟨rfl, HB0.out.trans (((bdr (bre W))).mono HB0.out.size)⟩
        | true =>
          have hr : x = nameB nm := by rw [hx2]; rfl
          subst hr
          clear hx2
          refine region_anyZ (z := 35) (S := fun w' => (w'.cell? ⟨n1, 0, none⟩ = some (.int .u8 k) ∧ w'.cell? ⟨n1, 1, none⟩ = some (.int .u64 a) ∧ w'.cell? ⟨n1, 2, none⟩ = some (.int .u64 b) ∧ w'.cell? ⟨n1, 3, none⟩ = some (.string nm))) (by kernel_rfl) ?_
          refine anyZ_begin (fun hcl0 => ?_)
          refine anyZ_held (by exact HSB.out _ (bdr (bre W))) (fun hHeld => ?_)
          -- 0: Op.fieldAddr 36 (Operand.tmp 1) 1
          refine' anyZ_pure (i := 0) (v := _) rfl (by rfl) (by kernel_rfl) (by kernel_rfl) (by kernel_rfl) hcl0 (fun _ _ _ h => h) (Or.inl ⟨by rfl, fun w _ => ?hp51⟩) (fun _ => hHeld) (fun hcl1 => ?rp51)
          case hp51 => (simp only [List.getElem_toArray, List.getElem_cons_zero]; first | (go_simp; with_reducible rfl) | (go_simp; done) | rfl)
          simp only [List.getElem_toArray, List.getElem_cons_zero, Act.put, List.setIfInBounds_toArray, List.set_cons_zero, List.set_cons_succ]
          -- 1: Op.load 32 (Operand.tmp 11)
          refine' anyZ_take (i := 1) (v := _) rfl (by rfl) (by kernel_rfl) (by kernel_rfl) (by kernel_rfl) hcl1 16 (by kernel_rfl) (by kernel_rfl) (fun _ _ _ h => h) (Or.inl ⟨by rfl, fun w hSw => ?hp52⟩) hHeld (fun hcl2 => ?rp52)
          case hp52 => (simp only [List.getElem_toArray, List.getElem_cons_succ, List.getElem_cons_zero]; obtain ⟨hS1, hS2, hS3, hS4⟩ := hSw; first | (go_simp; with_reducible rfl) | (go_simp; done) | rfl)
          simp only [List.getElem_toArray, List.getElem_cons_succ, List.getElem_cons_zero, Act.put, List.setIfInBounds_toArray, List.set_cons_zero, List.set_cons_succ]
          -- 2: Op.binOp BinOp.neq 32 (Operand.tmp 12) (Operand.const (Value
          refine' anyZ_pure (i := 2) (v := _) rfl (by rfl) (by kernel_rfl) (by kernel_rfl) (by kernel_rfl) hcl2 (fun _ _ _ h => h) (Or.inl ⟨by rfl, fun w _ => ?hp53⟩) (fun _ => hHeld) (fun hcl3 => ?rp53)
          case hp53 => (simp only [List.getElem_toArray, List.getElem_cons_succ, List.getElem_cons_zero]; first | (go_simp; with_reducible rfl) | (go_simp; done) | rfl)
          simp only [List.getElem_toArray, List.getElem_cons_succ, List.getElem_cons_zero, Act.put, List.setIfInBounds_toArray, List.set_cons_zero, List.set_cons_succ]
          -- 3: Op.fieldAddr 36 (Operand.tmp 1) 0
          refine' anyZ_pure (i := 3) (v := _) rfl (by rfl) (by kernel_rfl) (by kernel_rfl) (by kernel_rfl) hcl3 (fun _ _ _ h => h) (Or.inl ⟨by rfl, fun w _ => ?hp54⟩) (fun _ => hHeld) (fun hcl4 => ?rp54)
          case hp54 => (simp only [List.getElem_toArray, List.getElem_cons_succ, List.getElem_cons_zero]; first | (go_simp; with_reducible rfl) | (go_simp; done) | rfl)
          simp only [List.getElem_toArray, List.getElem_cons_succ, List.getElem_cons_zero, Act.put, List.setIfInBounds_toArray, List.set_cons_zero, List.set_cons_succ]
          -- 4: Op.load 5 (Operand.tmp 14)
          refine' anyZ_take (i := 4) (v := _) rfl (by rfl) (by kernel_rfl) (by kernel_rfl) (by kernel_rfl) hcl4 16 (by kernel_rfl) (by kernel_rfl) (fun _ _ _ h => h) (Or.inl ⟨by rfl, fun w hSw => ?hp55⟩) hHeld (fun hcl5 => ?rp55)
          case hp55 => (simp only [List.getElem_toArray, List.getElem_cons_succ, List.getElem_cons_zero]; obtain ⟨hS1, hS2, hS3, hS4⟩ := hSw; first | (go_simp; with_reducible rfl) | (go_simp; done) | rfl)
          simp only [List.getElem_toArray, List.getElem_cons_succ, List.getElem_cons_zero, Act.put, List.setIfInBounds_toArray, List.set_cons_zero, List.set_cons_succ]
          -- 5: Op.binOp BinOp.neq 5 (Operand.tmp 15) (Operand.const (Value.
          refine' anyZ_pure (i := 5) (v := _) rfl (by rfl) (by kernel_rfl) (by kernel_rfl) (by kernel_rfl) hcl5 (fun _ _ _ h => h) (Or.inl ⟨by rfl, fun w _ => ?hp56⟩) (fun _ => hHeld) (fun hcl6 => ?rp56)
          case hp56 => (simp only [List.getElem_toArray, List.getElem_cons_succ, List.getElem_cons_zero]; first | (go_simp; with_reducible rfl) | (go_simp; done) | rfl)
          simp only [List.getElem_toArray, List.getElem_cons_succ, List.getElem_cons_zero, Act.put, List.setIfInBounds_toArray, List.set_cons_zero, List.set_cons_succ]
          -- 6: Op.binOp BinOp.eql 4 (Operand.tmp 13) (Operand.tmp 16) 4
          refine' anyZ_pure (i := 6) (v := _) rfl (by rfl) (by kernel_rfl) (by kernel_rfl) (by kernel_rfl) hcl6 (fun _ _ _ h => h) (Or.inl ⟨by rfl, fun w _ => ?hp57⟩) (fun _ => hHeld) (fun hcl7 => ?rp57)
          case hp57 => (simp only [List.getElem_toArray, List.getElem_cons_succ, List.getElem_cons_zero]; first | (go_simp; with_reducible rfl) | (go_simp; done) | rfl)
          simp only [List.getElem_toArray, List.getElem_cons_succ, List.getElem_cons_zero, Act.put, List.setIfInBounds_toArray, List.set_cons_zero, List.set_cons_succ]
          -- 7: Op.move (Operand.tmp 17)
          refine' anyZ_pure (i := 7) (v := _) rfl (by rfl) (by kernel_rfl) (by kernel_rfl) (by kernel_rfl) hcl7 (fun _ _ _ h => h) (Or.inl ⟨by rfl, fun w _ => ?hp58⟩) (fun _ => hHeld) (fun hcl8 => ?rp58)
          case hp58 => (simp only [List.getElem_toArray, List.getElem_cons_succ, List.getElem_cons_zero]; first | (go_simp; with_reducible rfl) | (go_simp; done) | rfl)
          simp only [List.getElem_toArray, List.getElem_cons_succ, List.getElem_cons_zero, Act.put, List.setIfInBounds_toArray, List.set_cons_zero, List.set_cons_succ]
          -- 8: Op.fieldAddr 36 (Operand.tmp 1) 2
          refine' anyZ_pure (i := 8) (v := _) rfl (by rfl) (by kernel_rfl) (by kernel_rfl) (by kernel_rfl) hcl8 (fun _ _ _ h => h) (Or.inl ⟨by rfl, fun w _ => ?hp59⟩) (fun _ => hHeld) (fun hcl9 => ?rp59)
          case hp59 => (simp only [List.getElem_toArray, List.getElem_cons_succ, List.getElem_cons_zero]; first | (go_simp; with_reducible rfl) | (go_simp; done) | rfl)
          simp only [List.getElem_toArray, List.getElem_cons_succ, List.getElem_cons_zero, Act.put, List.setIfInBounds_toArray, List.set_cons_zero, List.set_cons_succ]
          -- 9: Op.load 32 (Operand.tmp 19)
          refine' anyZ_take (i := 9) (v := _) rfl (by rfl) (by kernel_rfl) (by kernel_rfl) (by kernel_rfl) hcl9 16 (by kernel_rfl) (by kernel_rfl) (fun _ _ _ h => h) (Or.inl ⟨by rfl, fun w hSw => ?hp510⟩) hHeld (fun hcl10 => ?rp510)
          case hp510 => (simp only [List.getElem_toArray, List.getElem_cons_succ, List.getElem_cons_zero]; obtain ⟨hS1, hS2, hS3, hS4⟩ := hSw; first | (go_simp; with_reducible rfl) | (go_simp; done) | rfl)
          simp only [List.getElem_toArray, List.getElem_cons_succ, List.getElem_cons_zero, Act.put, List.setIfInBounds_toArray, List.set_cons_zero, List.set_cons_succ]
          -- 10: Op.binOp BinOp.neq 32 (Operand.tmp 20) (Operand.const (Value
          refine' anyZ_pure (i := 10) (v := _) rfl (by rfl) (by kernel_rfl) (by kernel_rfl) (by kernel_rfl) hcl10 (fun _ _ _ h => h) (Or.inl ⟨by rfl, fun w _ => ?hp511⟩) (fun _ => hHeld) (fun hcl11 => ?rp511)
          case hp511 => (simp only [List.getElem_toArray, List.getElem_cons_succ, List.getElem_cons_zero]; first | (go_simp; with_reducible rfl) | (go_simp; done) | rfl)
          simp only [List.getElem_toArray, List.getElem_cons_succ, List.getElem_cons_zero, Act.put, List.setIfInBounds_toArray, List.set_cons_zero, List.set_cons_succ]
          -- 11: Op.fieldAddr 36 (Operand.tmp 1) 0
          refine' anyZ_pure (i := 11) (v := _) rfl (by rfl) (by kernel_rfl) (by kernel_rfl) (by kernel_rfl) hcl11 (fun _ _ _ h => h) (Or.inl ⟨by rfl, fun w _ => ?hp512⟩) (fun _ => hHeld) (fun hcl12 => ?rp512)
          case hp512 => (simp only [List.getElem_toArray, List.getElem_cons_succ, List.getElem_cons_zero]; first | (go_simp; with_reducible rfl) | (go_simp; done) | rfl)
          simp only [List.getElem_toArray, List.getElem_cons_succ, List.getElem_cons_zero, Act.put, List.setIfInBounds_toArray, List.set_cons_zero, List.set_cons_succ]
          -- 12: Op.load 5 (Operand.tmp 22)
          refine' anyZ_take (i := 12) (v := _) rfl (by rfl) (by kernel_rfl) (by kernel_rfl) (by kernel_rfl) hcl12 16 (by kernel_rfl) (by kernel_rfl) (fun _ _ _ h => h) (Or.inl ⟨by rfl, fun w hSw => ?hp513⟩) hHeld (fun hcl13 => ?rp513)
          case hp513 => (simp only [List.getElem_toArray, List.getElem_cons_succ, List.getElem_cons_zero]; obtain ⟨hS1, hS2, hS3, hS4⟩ := hSw; first | (go_simp; with_reducible rfl) | (go_simp; done) | rfl)
          simp only [List.getElem_toArray, List.getElem_cons_succ, List.getElem_cons_zero, Act.put, List.setIfInBounds_toArray, List.set_cons_zero, List.set_cons_succ]
          -- 13: Op.call { callee := Callee.value (Operand.func 34), args := 
          refine anyZ_oneG (i := 13) hcl13 (by kernel_rfl) (by simp only [List.getElem?_toArray, List.getElem?_cons_succ, List.getElem?_cons_zero]; rfl) (by rfl) (fun hcl14 K hK => ?_)
          go_simp
          refine (HIS1.out _).mono ?_
          rintro e wa ⟨rfl, hwa⟩
          have hwa' := hwa.symm
          subst hwa'
          clear hwa
          refine hK _ _ (fun _ => ?_) ?_
          · exact HSB.out _ (bdr (bre W))
          clear hK K hHeld
          have hHeld := (HSB.out _ (bdr (bre W)))
          try simp only [Act.put, List.setIfInBounds_toArray, List.set_cons_zero, List.set_cons_succ]
          -- 14: Op.binOp BinOp.eql 4 (Operand.tmp 21) (Operand.tmp 24) 4
          refine' anyZ_pure (i := 14) (v := _) rfl (by rfl) (by kernel_rfl) (by kernel_rfl) (by kernel_rfl) hcl14 (fun _ _ _ h => h) (Or.inl ⟨by rfl, fun w _ => ?hp515⟩) (fun _ => hHeld) (fun hcl15 => ?rp515)
          case hp515 => (simp only [List.getElem_toArray, List.getElem_cons_succ, List.getElem_cons_zero]; first | (go_simp; with_reducible rfl) | (go_simp; done) | rfl)
          simp only [List.getElem_toArray, List.getElem_cons_succ, List.getElem_cons_zero, Act.put, List.setIfInBounds_toArray, List.set_cons_zero, List.set_cons_succ]
          -- 15: Op.pick (Operand.tmp 18) (Operand.tmp 25) (Operand.const (Va
          refine' anyZ_pure (i := 15) (v := _) rfl (by rfl) (by kernel_rfl) (by kernel_rfl) (by kernel_rfl) hcl15 (fun _ _ _ h => h) (Or.inl ⟨by rfl, fun w _ => ?hp516⟩) (fun _ => hHeld) (fun hcl16 => ?rp516)
          case hp516 => (simp only [List.getElem_toArray, List.getElem_cons_succ, List.getElem_cons_zero]; first | (go_simp; with_reducible rfl) | (go_simp; done) | rfl)
          simp only [List.getElem_toArray, List.getElem_cons_succ, List.getElem_cons_zero, Act.put, List.setIfInBounds_toArray, List.set_cons_zero, List.set_cons_succ]
          -- 16: Op.move (Operand.tmp 26)
          refine' anyZ_pure (i := 16) (v := _) rfl (by rfl) (by kernel_rfl) (by kernel_rfl) (by kernel_rfl) hcl16 (fun _ _ _ h => h) (Or.inl ⟨by rfl, fun w _ => ?hp517⟩) (fun _ => hHeld) (fun hcl17 => ?rp517)
          case hp517 => (simp only [List.getElem_toArray, List.getElem_cons_succ, List.getElem_cons_zero]; first | (go_simp; with_reducible rfl) | (go_simp; done) | rfl)
          simp only [List.getElem_toArray, List.getElem_cons_succ, List.getElem_cons_zero, Act.put, List.setIfInBounds_toArray, List.set_cons_zero, List.set_cons_succ]
          -- 17: Op.fieldAddr 36 (Operand.tmp 1) 3
          refine' anyZ_pure (i := 17) (v := _) rfl (by rfl) (by kernel_rfl) (by kernel_rfl) (by kernel_rfl) hcl17 (fun _ _ _ h => h) (Or.inl ⟨by rfl, fun w _ => ?hp518⟩) (fun _ => hHeld) (fun hcl18 => ?rp518)
          case hp518 => (simp only [List.getElem_toArray, List.getElem_cons_succ, List.getElem_cons_zero]; first | (go_simp; with_reducible rfl) | (go_simp; done) | rfl)
          simp only [List.getElem_toArray, List.getElem_cons_succ, List.getElem_cons_zero, Act.put, List.setIfInBounds_toArray, List.set_cons_zero, List.set_cons_succ]
          -- 18: Op.load 9 (Operand.tmp 28)
          refine' anyZ_take (i := 18) (v := _) rfl (by rfl) (by kernel_rfl) (by kernel_rfl) (by kernel_rfl) hcl18 16 (by kernel_rfl) (by kernel_rfl) (fun _ _ _ h => h) (Or.inl ⟨by rfl, fun w hSw => ?hp519⟩) hHeld (fun hcl19 => ?rp519)
          case hp519 => (simp only [List.getElem_toArray, List.getElem_cons_succ, List.getElem_cons_zero]; obtain ⟨hS1, hS2, hS3, hS4⟩ := hSw; first | (go_simp; with_reducible rfl) | (go_simp; done) | rfl)
          simp only [List.getElem_toArray, List.getElem_cons_succ, List.getElem_cons_zero, Act.put, List.setIfInBounds_toArray, List.set_cons_zero, List.set_cons_succ]
          -- 19: Op.binOp BinOp.neq 9 (Operand.tmp 29) (Operand.const (Value.
          refine' anyZ_pure (i := 19) (v := _) rfl (by rfl) (by kernel_rfl) (by kernel_rfl) (by kernel_rfl) hcl19 (fun _ _ _ h => h) (Or.inl ⟨by rfl, fun w _ => ?hp520⟩) (fun _ => hHeld) (fun hcl20 => ?rp520)
          case hp520 => (simp only [List.getElem_toArray, List.getElem_cons_succ, List.getElem_cons_zero]; first | (go_simp; with_reducible rfl) | (go_simp; done) | rfl)
          simp only [List.getElem_toArray, List.getElem_cons_succ, List.getElem_cons_zero, Act.put, List.setIfInBounds_toArray, List.set_cons_zero, List.set_cons_succ]
          -- 20: Op.fieldAddr 36 (Operand.tmp 1) 0
          refine' anyZ_pure (i := 20) (v := _) rfl (by rfl) (by kernel_rfl) (by kernel_rfl) (by kernel_rfl) hcl20 (fun _ _ _ h => h) (Or.inl ⟨by rfl, fun w _ => ?hp521⟩) (fun _ => hHeld) (fun hcl21 => ?rp521)
          case hp521 => (simp only [List.getElem_toArray, List.getElem_cons_succ, List.getElem_cons_zero]; first | (go_simp; with_reducible rfl) | (go_simp; done) | rfl)
          simp only [List.getElem_toArray, List.getElem_cons_succ, List.getElem_cons_zero, Act.put, List.setIfInBounds_toArray, List.set_cons_zero, List.set_cons_succ]
          -- 21: Op.load 5 (Operand.tmp 31)
          refine' anyZ_take (i := 21) (v := _) rfl (by rfl) (by kernel_rfl) (by kernel_rfl) (by kernel_rfl) hcl21 16 (by kernel_rfl) (by kernel_rfl) (fun _ _ _ h => h) (Or.inl ⟨by rfl, fun w hSw => ?hp522⟩) hHeld (fun hcl22 => ?rp522)
          case hp522 => (simp only [List.getElem_toArray, List.getElem_cons_succ, List.getElem_cons_zero]; obtain ⟨hS1, hS2, hS3, hS4⟩ := hSw; first | (go_simp; with_reducible rfl) | (go_simp; done) | rfl)
          simp only [List.getElem_toArray, List.getElem_cons_succ, List.getElem_cons_zero, Act.put, List.setIfInBounds_toArray, List.set_cons_zero, List.set_cons_succ]
          -- 22: Op.call { callee := Callee.value (Operand.func 34), args := 
          refine anyZ_oneG (i := 22) hcl22 (by kernel_rfl) (by simp only [List.getElem?_toArray, List.getElem?_cons_succ, List.getElem?_cons_zero]; rfl) (by rfl) (fun hcl23 K hK => ?_)
          go_simp
          refine (HIS2.out _).mono ?_
          rintro e wa ⟨rfl, hwa⟩
          have hwa' := hwa.symm
          subst hwa'
          clear hwa
          refine hK _ _ (fun _ => ?_) ?_
          · exact HSB.out _ (bdr (bre W))
          clear hK K hHeld
          have hHeld := (HSB.out _ (bdr (bre W)))
          try simp only [Act.put, List.setIfInBounds_toArray, List.set_cons_zero, List.set_cons_succ]
          -- 23: Op.binOp BinOp.eql 4 (Operand.tmp 30) (Operand.tmp 33) 4
          refine' anyZ_pure (i := 23) (v := _) rfl (by rfl) (by kernel_rfl) (by kernel_rfl) (by kernel_rfl) hcl23 (fun _ _ _ h => h) (Or.inl ⟨by rfl, fun w _ => ?hp524⟩) (fun _ => hHeld) (fun hcl24 => ?rp524)
          case hp524 => (simp only [List.getElem_toArray, List.getElem_cons_succ, List.getElem_cons_zero]; first | (go_simp; with_reducible rfl) | (go_simp; done) | rfl)
          simp only [List.getElem_toArray, List.getElem_cons_succ, List.getElem_cons_zero, Act.put, List.setIfInBounds_toArray, List.set_cons_zero, List.set_cons_succ]
          -- 24: Op.pick (Operand.tmp 27) (Operand.tmp 34) (Operand.const (Va
          refine' anyZ_pure (i := 24) (v := _) rfl (by rfl) (by kernel_rfl) (by kernel_rfl) (by kernel_rfl) hcl24 (fun _ _ _ h => h) (Or.inl ⟨by rfl, fun w _ => ?hp525⟩) (fun _ => hHeld) (fun hcl25 => ?rp525)
          case hp525 => (simp only [List.getElem_toArray, List.getElem_cons_succ, List.getElem_cons_zero]; first | (go_simp; with_reducible rfl) | (go_simp; done) | rfl)
          simp only [List.getElem_toArray, List.getElem_cons_succ, List.getElem_cons_zero, Act.put, List.setIfInBounds_toArray, List.set_cons_zero, List.set_cons_succ]
          -- 25: Op.move (Operand.tmp 35)
          refine' anyZ_pure (i := 25) (v := _) rfl (by rfl) (by kernel_rfl) (by kernel_rfl) (by kernel_rfl) hcl25 (fun _ _ _ h => h) (Or.inl ⟨by rfl, fun w _ => ?hp526⟩) (fun _ => hHeld) (fun hcl26 => ?rp526)
          case hp526 => (simp only [List.getElem_toArray, List.getElem_cons_succ, List.getElem_cons_zero]; first | (go_simp; with_reducible rfl) | (go_simp; done) | rfl)
          simp only [List.getElem_toArray, List.getElem_cons_succ, List.getElem_cons_zero, Act.put, List.setIfInBounds_toArray, List.set_cons_zero, List.set_cons_succ]
          -- 26: Op.fieldAddr 36 (Operand.tmp 1) 3
          refine' anyZ_pure (i := 26) (v := _) rfl (by rfl) (by kernel_rfl) (by kernel_rfl) (by kernel_rfl) hcl26 (fun _ _ _ h => h) (Or.inl ⟨by rfl, fun w _ => ?hp527⟩) (fun _ => hHeld) (fun hcl27 => ?rp527)
          case hp527 => (simp only [List.getElem_toArray, List.getElem_cons_succ, List.getElem_cons_zero]; first | (go_simp; with_reducible rfl) | (go_simp; done) | rfl)
          simp only [List.getElem_toArray, List.getElem_cons_succ, List.getElem_cons_zero, Act.put, List.setIfInBounds_toArray, List.set_cons_zero, List.set_cons_succ]
          -- 27: Op.load 9 (Operand.tmp 37)
          refine' anyZ_take (i := 27) (v := _) rfl (by rfl) (by kernel_rfl) (by kernel_rfl) (by kernel_rfl) hcl27 16 (by kernel_rfl) (by kernel_rfl) (fun _ _ _ h => h) (Or.inl ⟨by rfl, fun w hSw => ?hp528⟩) hHeld (fun hcl28 => ?rp528)
          case hp528 => (simp only [List.getElem_toArray, List.getElem_cons_succ, List.getElem_cons_zero]; obtain ⟨hS1, hS2, hS3, hS4⟩ := hSw; first | (go_simp; with_reducible rfl) | (go_simp; done) | rfl)
          simp only [List.getElem_toArray, List.getElem_cons_succ, List.getElem_cons_zero, Act.put, List.setIfInBounds_toArray, List.set_cons_zero, List.set_cons_succ]
          -- 28: Op.binOp BinOp.eql 9 (Operand.tmp 38) (Operand.const (Value.
          refine' anyZ_pure (i := 28) (v := _) rfl (by rfl) (by kernel_rfl) (by kernel_rfl) (by kernel_rfl) hcl28 (fun _ _ _ h => h) (Or.inl ⟨by rfl, fun w _ => ?hp529⟩) (fun _ => hHeld) (fun hcl29 => ?rp529)
          case hp529 => (simp only [List.getElem_toArray, List.getElem_cons_succ, List.getElem_cons_zero]; first | (go_simp; with_reducible rfl) | (go_simp; done) | rfl)
          simp only [List.getElem_toArray, List.getElem_cons_succ, List.getElem_cons_zero, Act.put, List.setIfInBounds_toArray, List.set_cons_zero, List.set_cons_succ]
          -- 29: Op.move (Operand.tmp 39)
          refine' anyZ_pure (i := 29) (v := _) rfl (by rfl) (by kernel_rfl) (by kernel_rfl) (by kernel_rfl) hcl29 (fun _ _ _ h => h) (Or.inl ⟨by rfl, fun w _ => ?hp530⟩) (fun _ => hHeld) (fun hcl30 => ?rp530)
          case hp530 => (simp only [List.getElem_toArray, List.getElem_cons_succ, List.getElem_cons_zero]; first | (go_simp; with_reducible rfl) | (go_simp; done) | rfl)
          simp only [List.getElem_toArray, List.getElem_cons_succ, List.getElem_cons_zero, Act.put, List.setIfInBounds_toArray, List.set_cons_zero, List.set_cons_succ]
          -- 30: Op.fieldAddr 36 (Operand.tmp 1) 3
          refine' anyZ_pure (i := 30) (v := _) rfl (by rfl) (by kernel_rfl) (by kernel_rfl) (by kernel_rfl) hcl30 (fun _ _ _ h => h) (Or.inl ⟨by rfl, fun w _ => ?hp531⟩) (fun _ => hHeld) (fun hcl31 => ?rp531)
          case hp531 => (simp only [List.getElem_toArray, List.getElem_cons_succ, List.getElem_cons_zero]; first | (go_simp; with_reducible rfl) | (go_simp; done) | rfl)
          simp only [List.getElem_toArray, List.getElem_cons_succ, List.getElem_cons_zero, Act.put, List.setIfInBounds_toArray, List.set_cons_zero, List.set_cons_succ]
          -- 31: Op.load 9 (Operand.tmp 41)
          refine' anyZ_take (i := 31) (v := _) rfl (by rfl) (by kernel_rfl) (by kernel_rfl) (by kernel_rfl) hcl31 16 (by kernel_rfl) (by kernel_rfl) (fun _ _ _ h => h) (Or.inl ⟨by rfl, fun w hSw => ?hp532⟩) hHeld (fun hcl32 => ?rp532)
          case hp532 => (simp only [List.getElem_toArray, List.getElem_cons_succ, List.getElem_cons_zero]; obtain ⟨hS1, hS2, hS3, hS4⟩ := hSw; first | (go_simp; with_reducible rfl) | (go_simp; done) | rfl)
          simp only [List.getElem_toArray, List.getElem_cons_succ, List.getElem_cons_zero, Act.put, List.setIfInBounds_toArray, List.set_cons_zero, List.set_cons_succ]
          -- 32: Op.call { callee := Callee.value (Operand.func 40), args := 
          refine anyZ_oneG (i := 32) hcl32 (by kernel_rfl) (by simp only [List.getElem?_toArray, List.getElem?_cons_succ, List.getElem?_cons_zero]; rfl) (by rfl) (fun hcl33 K hK => ?_)
          go_simp
          refine (HNM.out _ (bdr (bre W))).mono ?_
          rintro e wb ⟨rfl, hbb⟩
          have hbb1 := btr (bdr (bre W)) hbb
          refine hK _ _ (fun _ => ?_) ?_
          · exact HSB.out _ hbb1
          clear hK K hHeld
          have hHeld := (HSB.out _ hbb1)
          try simp only [Act.put, List.setIfInBounds_toArray, List.set_cons_zero, List.set_cons_succ]
          -- 33: Op.pick (Operand.tmp 40) (Operand.const (Value.bool true)) (
          refine' anyZ_pure (i := 33) (v := _) rfl (by rfl) (by kernel_rfl) (by kernel_rfl) (by kernel_rfl) hcl33 (fun _ _ _ h => h) (Or.inl ⟨by rfl, fun w _ => ?hp534⟩) (fun _ => hHeld) (fun hcl34 => ?rp534)
          case hp534 => (simp only [List.getElem_toArray, List.getElem_cons_succ, List.getElem_cons_zero]; first | (go_simp; with_reducible rfl) | (go_simp; done) | rfl)
          simp only [List.getElem_toArray, List.getElem_cons_succ, List.getElem_cons_zero, Act.put, List.setIfInBounds_toArray, List.set_cons_zero, List.set_cons_succ]
          -- 34: Op.pick (Operand.tmp 36) (Operand.tmp 44) (Operand.const (Va
          refine' anyZ_pure (i := 34) (v := _) rfl (by rfl) (by kernel_rfl) (by kernel_rfl) (by kernel_rfl) hcl34 (fun _ _ _ h => h) (Or.inl ⟨by rfl, fun w _ => ?hp535⟩) (fun _ => hHeld) (fun hcl35 => ?rp535)
          case hp535 => (simp only [List.getElem_toArray, List.getElem_cons_succ, List.getElem_cons_zero]; first | (go_simp; with_reducible rfl) | (go_simp; done) | rfl)
          simp only [List.getElem_toArray, List.getElem_cons_succ, List.getElem_cons_zero, Act.put, List.setIfInBounds_toArray, List.set_cons_zero, List.set_cons_succ]
          clear hHeld
          refine anyZ_chain_at (by kernel_rfl) ?_
          simp only [List.drop_succ_cons, List.drop_zero]
          go_wp2_with fail
          go_ret
          exact ⟨rfl, HB0.out.trans (hbb1.mono HB0.out.size)⟩
end Go.Proofs.YtminfdlhbecnhaaGreatDoor
