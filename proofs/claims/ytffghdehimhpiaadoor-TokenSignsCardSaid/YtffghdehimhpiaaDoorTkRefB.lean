/- Walk: the document's tokens of a text. -/
import Derived.Test.YtffghdehimhpiaaDoorTkRefA
import Derived.Test.YtffghdehimhpiaaDoorOrdG
import Derived.Deep.CutBlock
namespace Go.Proofs.YtffghdehimhpiaaDoor
open Go.RowKit

def OwnToksR (base : Nat) (w : World) (v : Value) (ts : List Tok) : Prop := w.ownsRow base 33 3 v ts.length (ts.flatMap tokCells)
theorem rowTokR : RowTy Tryd.prog 28 33 3 32 := RowTy.mk' (z := .agg #[.int .u8 0, .string ByteArray.empty, .int .i64 0]) Tryd.underlying28 (by kernel_rfl) rfl (by omega)

def RAllPost (w : World) (l : List UInt8) (e : Ending) (w' : World) : Prop :=
  (toksOf l = none → e = .returned (.tuple #[.slice none 0 0, .int .i64 20])) ∧ (∀ ts, toksOf l = some ts → ∃ v, e = .returned (.tuple #[v, .int .i64 0]) ∧ OwnToksR w.heap.size w' v ts) ∧ Below w.heap.size w w'

theorem class_le (n : Nat) : classOf n ≤ 3 := by
  unfold classOf
  split
  · omega
  · split
    · omega
    · split <;> omega

theorem part_class (n : Nat) : partN n = true ↔ classOf n = 1 ∨ classOf n = 2 := (class_two n).symm

theorem rows_cells {w : World} {n e : Nat} {ls : List (List UInt8)} (h : w.heap[n]? = some (.cells (ls.map strV).toArray e (0, 0))) : ∀ j, j < ls.length → w.cell? ⟨n, j, none⟩ = some (strV (ls.getD j [])) := fun j hj => strs_cell h j hj

/-- is it one of the words? -/
theorem in_words (T : List UInt8) (w : World) : Calls Tryd.prog 17 #[] w fun e w' => e = .returned (.slice (some ⟨w.heap.size, 0, none⟩) 14 14) ∧ Below w.heap.size w w' ∧ (∀ w2, w2 = w' → Calls Tryd.prog 28 #[.slice (some ⟨w.heap.size, 0, none⟩) 14 14, .string (mk8 T)] w2 fun e w3 => e = .returned (.bool (tokWords.contains T)) ∧ w3 = w2) := by
  refine (rwords_any w).mono ?_
  rintro e w1 ⟨rfl, rfl⟩
  refine ⟨rfl, bal (bre w) _, fun w2 h => ?_⟩
  subst h
  exact in_any w.heap.size 14 tokWords T _ rfl (by decide) (rows_cells (heap_alloc_new w _))

theorem in_signs (T : List UInt8) (w : World) : Calls Tryd.prog 14 #[] w fun e w' => e = .returned (.slice (some ⟨w.heap.size, 0, none⟩) 22 22) ∧ Below w.heap.size w w' ∧ (∀ w2, w2 = w' → Calls Tryd.prog 28 #[.slice (some ⟨w.heap.size, 0, none⟩) 22 22, .string (mk8 T)] w2 fun e w3 => e = .returned (.bool (signRows.contains T)) ∧ w3 = w2) := by
  refine (rsigns_any w).mono ?_
  rintro e w1 ⟨rfl, rfl⟩
  refine ⟨rfl, bal (bre w) _, fun w2 h => ?_⟩
  subst h
  exact in_any w.heap.size 22 signRows T _ rfl (by decide) (rows_cells (heap_alloc_new w _))

theorem ext_mk (s : ByteArray) (i k : Nat) (T : List UInt8) (h : (s.data.toList.drop i).take (k - i) = T) : s.extract i k = mk8 T := by
  have h1 := mid_bytes s i k
  rw [h] at h1
  have h3 := mk_eq h1
  rw [strV_mk] at h3
  exact Value.string.inj h3

set_option linter.unusedSimpArgs false in
set_option maxRecDepth 2000000 in
set_option maxHeartbeats 12800000 in
theorem rall_any (s : ByteArray) (hs : s.size ≤ 200000) (w : World) : Calls Tryd.prog 11 #[.string s] w (RAllPost w s.data.toList) := by
  go_enter Tryd.func11, Tryd.ntmps11
  go_wp2_with fail
  go_loopw [4, 5, 6, 7, 8, 9] (fun v si _ _ _ _ wr => ∃ (i : Nat) (ts : List Tok), si = .int .i64 i ∧ i ≤ s.size ∧ ts.length ≤ i ∧ Hid (Below w.heap.size w wr) ∧ Hid (OwnToksR w.heap.size wr v ts) ∧ Hid (Came s.data.toList i ts)) (fun _ si _ _ _ _ _ => s.size - (intOf si).toNat)
  case atStart => exact ⟨0, [], rfl, by omega, by simp, Lib.hid (bre w), Lib.hid (World.ownsRow_nil _ _ _ _), Lib.hid (came_start _)⟩
  case round =>
    obtain ⟨i, ts, rfl, hi, htl, hbl, hown, hcm⟩ := hrel
    by_cases hlt : i < s.size
    rotate_left
    · have d1 : decide ((i : Int) < s.size) = false := decide_eq_false (by omega)
      have d1n : decide (i < s.size) = false := decide_eq_false hlt
      have HE : Hid (toksOf s.data.toList = some ts) := Lib.hid (came_end hcm.out (by rw [str_len]; omega))
      clear hcm hi htl hlt
      go_wp2_with fail
      go_ret2
      exact ⟨(fun h => by rw [HE.out] at h; cases h), (fun ts' h => by rw [HE.out] at h; cases h; exact ⟨_, rfl, hown.out⟩), hbl.out⟩
    have hll : i < s.data.toList.length := by rw [str_len]; exact hlt
    have hgb := str_get s i hlt
    have hdc := drop_cons s.data.toList i hll
    rw [hgb] at hdc
    have d1 : decide ((i : Int) < s.size) = true := decide_eq_true (by omega)
    have d1n : decide (i < s.size) = true := decide_eq_true hlt
    obtain ⟨c, hc⟩ : ∃ c, c = classOf (s[i]'hlt).toNat := ⟨_, rfl⟩
    have HCL : Hid (∀ w', Calls Tryd.prog 27 #[.int .u8 (s[i]'hlt).toNat] w' fun e w'' => e = .returned (.int .i64 c) ∧ w'' = w') := Lib.hid fun w' => by rw [hc]; exact class_any _ w'
    obtain ⟨b, hb⟩ : ∃ b, b = (s[i]'hlt).toNat := ⟨_, rfl⟩
    have hbl2 : (s.data.toList[i]'hll).toNat = b := by rw [hgb, ← hb]
    rw [← hb] at hc
    have HCC := Lib.hid hc
    have HBB := Lib.hid hb
    have hcl := class_le b
    rw [← hc] at hcl
    clear hc hb
    by_cases h3 : c = 3
    · have HN : Hid (Came s.data.toList (i + 1) ts) := Lib.hid (came_blank hcm.out hll (by rw [hbl2, ← HCC.out]; exact h3))
      subst h3
      clear hcm hgb hdc hbl2
      go_wp2_with fail
      refine (HCL.out _).mono ?_
      rintro e w1 ⟨rfl, hw⟩
      have hw' := hw.symm
      subst hw'
      clear hw HCL
      go_wp2_with fail
      go_roundw
      case rel => exact ⟨i + 1, ts, by go_num, by omega, by omega, hbl, hown, HN⟩
      case measure => simp [intOf]; try omega
    have e3 : ((c : Int) == 3) = false := beq_false_of_ne (by omega)
    have g3 : decide ((c : Int) = 3) = false := e3
    have n3 : (c == 3) = false := beq_false_of_ne h3
    have m3 : decide (c = 3) = false := decide_eq_false h3
    have HST : Hid (classOf (s.data.toList[i]).toNat ≠ 3) := Lib.hid (by rw [hbl2, ← HCC.out]; exact h3)
    by_cases h35 : b = 35
    · have HN : Hid (Came s.data.toList (i + noteOf (s.data.toList.drop i)) ts) := Lib.hid (came_note hcm.out hll (by rw [hbl2]; exact h35))
      have HP : Hid (0 < noteOf (s.data.toList.drop i)) := Lib.hid (by rw [hdc]; exact note_pos (by rw [← HBB.out]; exact h35))
      have e35 : (((s[i]'hlt).toNat : Int) == 35) = true := by rw [← HBB.out, h35]; rfl
      have g35 : decide (((s[i]'hlt).toNat : Int) = 35) = true := e35
      have n35 : ((s[i]'hlt).toNat == 35) = true := by rw [← HBB.out, h35]; rfl
      have m35 : decide ((s[i]'hlt).toNat = 35) = true := n35
      clear hcm hgb hdc hbl2 h3 h35
      go_wp2_with fail
      refine (HCL.out _).mono ?_
      rintro e w1 ⟨rfl, hw⟩
      have hw' := hw.symm
      subst hw'
      clear hw HCL
      go_wp2_with fail
      clear e3 g3 e35 g35 n3 m3 n35 m35
      obtain ⟨wo, hwo⟩ : ∃ wo : World, wo = wr := ⟨_, rfl⟩
      rw [← hwo] at hbl hown ⊢
      clear hwo
      go_loopw [5] (fun si wi => ∃ m : Nat, i ≤ m ∧ m ≤ s.size ∧ si = .int .i64 m ∧ wi = wo ∧ Hid (∀ j (h : j < s.size), i ≤ j → j < m → noteN (s[j]'h).toNat = true)) (fun si _ => s.size - (intOf si).toNat)
      case atStart => exact ⟨i, Nat.le_refl _, hi, rfl, rfl, Lib.hid fun j _ h1 h2 => absurd h1 (by omega)⟩
      case round =>
        obtain ⟨m, him, hm, rfl, rfl, hall⟩ := hrel
        by_cases hlm : m < s.size
        · have d2 : decide ((m : Int) < s.size) = true := decide_eq_true (by omega)
          have d2n : decide (m < s.size) = true := decide_eq_true hlm
          cases hp : noteN (s[m]'hlm).toNat with
          | true =>
            have HA : Hid (∀ j (h : j < s.size), i ≤ j → j < m + 1 → noteN (s[j]'h).toNat = true) := Lib.hid fun j h h1 h2 => by
              rcases Nat.lt_or_ge j m with h' | h'
              · exact hall.out j h h1 h'
              · have : j = m := by omega
                subst this
                exact hp
            have hne : (s[m]'hlm).toNat ≠ 10 := by unfold noteN at hp; exact bne_iff_ne.1 hp
            have f1 : (((s[m]'hlm).toNat : Int) != 10) = true := by simp; omega
            have f2 : decide (((s[m]'hlm).toNat : Int) = 10) = false := decide_eq_false (by omega)
            have f3 : (((s[m]'hlm).toNat : Int) == 10) = false := f2
            clear hp hall hne
            go_wp2_with fail
            go_roundw
            case rel => exact ⟨m + 1, by omega, by omega, by go_num, by trivial, HA⟩
            case measure => simp [intOf]; try omega
          | false =>
            have HL : Hid (noteOf (s.data.toList.drop i) = m - i) := Lib.hid (run_until noteN s i m him hm (fun j h h1 h2 => hall.out j h h1 h2) (fun _ => hp))
            have hne : (s[m]'hlm).toNat = 10 := by
              unfold noteN at hp
              exact Classical.byContradiction fun h => by rw [bne_iff_ne.2 h] at hp; cases hp
            have f1 : (((s[m]'hlm).toNat : Int) != 10) = false := by rw [hne]; rfl
            have f2 : decide (((s[m]'hlm).toNat : Int) = 10) = true := by rw [hne]; rfl
            have f3 : (((s[m]'hlm).toNat : Int) == 10) = true := f2
            have HN2 : Hid (Came s.data.toList m ts) := Lib.hid (by have := HN.out; rw [HL.out, show i + (m - i) = m by omega] at this; exact this)
            have HP2 : Hid (i < m) := Lib.hid (by have := HP.out; rw [HL.out] at this; omega)
            clear hp hall hne HL
            go_wp2_with fail
            go_roundw
            case rel => exact ⟨m, ts, rfl, hm, by omega, hbl, hown, HN2⟩
            case measure => have := HP2.out; simp [intOf]; omega
        · have em : m = s.size := by omega
          have d2 : decide ((m : Int) < s.size) = false := decide_eq_false (by omega)
          have d2n : decide (m < s.size) = false := decide_eq_false hlm
          have HL : Hid (noteOf (s.data.toList.drop i) = m - i) := Lib.hid (run_until noteN s i m him hm (fun j h h1 h2 => hall.out j h h1 h2) (fun h => absurd h hlm))
          have HN2 : Hid (Came s.data.toList m ts) := Lib.hid (by have := HN.out; rw [HL.out, show i + (m - i) = m by omega] at this; exact this)
          have HP2 : Hid (i < m) := Lib.hid (by have := HP.out; rw [HL.out] at this; omega)
          clear hall em HL hlm
          go_wp2_with fail
          go_roundw
          case rel => exact ⟨m, ts, rfl, hm, by omega, hbl, hown, HN2⟩
          case measure => have := HP2.out; simp [intOf]; omega
    have e35 : (((s[i]'hlt).toNat : Int) == 35) = false := beq_false_of_ne (by rw [← HBB.out]; omega)
    have g35 : decide (((s[i]'hlt).toNat : Int) = 35) = false := e35
    have n35 : ((s[i]'hlt).toNat == 35) = false := beq_false_of_ne (by rw [← HBB.out]; exact h35)
    have m35 : decide ((s[i]'hlt).toNat = 35) = false := n35
    have HST2 : Hid ((s.data.toList[i]).toNat ≠ 35) := Lib.hid (by rw [hbl2]; exact h35)
    have HLL := Lib.hid hll
    obtain ⟨r, hr⟩ : ∃ r, r = s.data.toList.drop i := ⟨_, rfl⟩
    have hrl : r.length = s.size - i := by rw [hr, List.length_drop, str_len]
    rw [← hr] at hdc
    have HRR := Lib.hid hr
    by_cases hc0 : c = 0
    · have hp0 : partN b = false := by
        cases h : partN b
        · rfl
        · rcases (part_class b).1 h with h' | h' <;> rw [← HCC.out] at h' <;> omega
      have hta : tokAt (s.data.toList.drop i) = if signRows.contains (r.take 2) then (4, (r.take 2).length) else if signRows.contains (r.take 1) then (4, (r.take 1).length) else (0, 0) := by
        unfold tokAt
        rw [← hr, if_neg (by rw [hdc]; show ¬ partN (s[i]'hlt).toNat = true; rw [← HBB.out, hp0]; decide)]
      have hx1 : s.extract i (i + 1) = mk8 (r.take 1) := ext_mk s i (i + 1) _ (by rw [← hr]; congr 1; omega)
      have hz1 : (mk8 (r.take 1)).size = 1 := by rw [← str_len]; show (r.take 1).length = 1; rw [List.length_take, hrl]; omega
      have HX1 := Lib.hid hx1
      have HZ1 := Lib.hid hz1
      have d0 : decide ((0 : Int) < c) = false := decide_eq_false (by omega)
      have d0n : decide (0 < c) = false := decide_eq_false (by omega)
      have HS1 : Hid (signRows.contains (r.take 1) = true → (¬ i + 1 < s.size ∨ signRows.contains (r.take 2) = false) → Hid (Came s.data.toList (i + 1) (ts ++ [⟨4, r.take 1, i⟩]))) := Lib.hid fun h1 h2 => Lib.hid (by
        have hk : tokAt (s.data.toList.drop i) = (4, 1) := by
          rw [hta]
          rcases h2 with h2 | h2
          · have : r.take 2 = r.take 1 := by rw [List.take_of_length_le (by rw [hrl]; omega), List.take_of_length_le (by rw [hrl]; omega)]
            rw [this, if_pos h1, List.length_take, hrl]
            congr 1
            omega
          · rw [h2, if_neg (by decide), if_pos h1, List.length_take, hrl]
            congr 1
            omega
        have := came_tok hcm.out HLL.out HST.out HST2.out (by rw [hk]; exact Nat.succ_ne_zero _)
        rw [hk, ← hr] at this
        exact this)
      have HS2 : Hid (signRows.contains (r.take 2) = true → i + 1 < s.size → Hid (Came s.data.toList (i + 2) (ts ++ [⟨4, r.take 2, i⟩]))) := Lib.hid fun h1 h2 => Lib.hid (by
        have hk : tokAt (s.data.toList.drop i) = (4, 2) := by
          rw [hta, if_pos h1, List.length_take, hrl]
          congr 1
          omega
        have := came_tok hcm.out HLL.out HST.out HST2.out (by rw [hk]; exact Nat.succ_ne_zero _)
        rw [hk, ← hr] at this
        exact this)
      have HSN : Hid (signRows.contains (r.take 1) = false → (¬ i + 1 < s.size ∨ signRows.contains (r.take 2) = false) → toksOf s.data.toList = none) := Lib.hid fun h1 h2 => by
        have hk : tokAt (s.data.toList.drop i) = (0, 0) := by
          rw [hta]
          rcases h2 with h2 | h2
          · have : r.take 2 = r.take 1 := by rw [List.take_of_length_le (by rw [hrl]; omega), List.take_of_length_le (by rw [hrl]; omega)]
            rw [this, h1]; rfl
          · rw [h2, h1]; rfl
        exact came_none hcm.out HLL.out HST.out HST2.out (by rw [hk])
      clear hcm hgb hdc hbl2 h3 h35 hc0 hp0 hta hx1 hz1 hr
      go_wp2_with fail
      refine (HCL.out _).mono ?_
      rintro e w1 ⟨rfl, hw⟩
      have hw' := hw.symm
      subst hw'
      clear hw HCL
      go_upto_region 24 with fail
      clear e3 g3 n3 m3 e35 g35 n35 m35 d0 d0n hcl
      rw [HX1.out]
      generalize wr = wo at *
      by_cases h2 : i + 1 < s.size
      · have d2 : decide ((i : Int) + 1 < s.size) = true := decide_eq_true (by omega)
        have d2n : decide (i + 1 < s.size) = true := decide_eq_true (by omega)
        have hw1 : IntKind.i64.wrap ((i : Int) + 1) = (i : Int) + 1 := by rw [IntKind.wrap_i64]; omega
        have hw2 : IntKind.i64.wrap ((i : Int) + 2) = (i : Int) + 2 := by rw [IntKind.wrap_i64]; omega
        have hx2 : s.extract i (i + 2) = mk8 (r.take 2) := ext_mk s i (i + 2) _ (by rw [← HRR.out]; congr 1; omega)
        have HX2 := Lib.hid hx2
        have hz2 : (mk8 (r.take 2)).size = 2 := by rw [← str_len]; show (r.take 2).length = 2; rw [List.length_take, hrl]; omega
        have HZ2 := Lib.hid hz2
        have h2s : i + 2 ≤ s.size := by omega
        have p0 : 0 ≤ (i : Int) + 2 := by omega
        have p1 : ((i : Int) + 2).toNat = i + 2 := by omega
        have p2 : (i : Int) ≤ (i : Int) + 2 := by omega
        have p3 : (i : Int) + 2 ≤ (s.size : Int) := by omega
        have p4 : i ≤ i + 2 := by omega
        clear hx2 hz2
        refine region_anyZ (z := 12) (S := fun _ => True) (by kernel_rfl) ?_
        refine anyZ_begin (fun hcl0 => ?_)
        refine anyZ_held (by exact trivial) (fun hHeld => ?_)
        -- 0: Op.move (Operand.tmp 5)
        refine' anyZ_pure (i := 0) (v := _) rfl (by rfl) (by kernel_rfl) (by kernel_rfl) (by kernel_rfl) hcl0 (fun _ _ _ h => h) (Or.inl ⟨by rfl, fun w _ => ?hsg1⟩) (fun _ => hHeld) (fun hcl1 => ?rsg1)
        case hsg1 => (simp only [List.getElem_toArray, List.getElem_cons_zero]; first | (go_simp; with_reducible rfl) | (go_simp; done) | rfl)
        simp only [List.getElem_toArray, List.getElem_cons_zero, Act.put, List.setIfInBounds_toArray, List.set_cons_zero, List.set_cons_succ]
        -- 1: Op.binOp BinOp.add 3 (Operand.tmp 100) (Operand.const (Value
        refine' anyZ_pure (i := 1) (v := _) rfl (by rfl) (by kernel_rfl) (by kernel_rfl) (by kernel_rfl) hcl1 (fun _ _ _ h => h) (Or.inl ⟨by rfl, fun w _ => ?hsg2⟩) (fun _ => hHeld) (fun hcl2 => ?rsg2)
        case hsg2 => (simp only [List.getElem_toArray, List.getElem_cons_succ, List.getElem_cons_zero]; first | (go_simp; with_reducible rfl) | (go_simp; done) | rfl)
        simp only [List.getElem_toArray, List.getElem_cons_succ, List.getElem_cons_zero, Act.put, List.setIfInBounds_toArray, List.set_cons_zero, List.set_cons_succ]
        -- 2: Op.move (Operand.tmp 0)
        refine' anyZ_pure (i := 2) (v := _) rfl (by rfl) (by kernel_rfl) (by kernel_rfl) (by kernel_rfl) hcl2 (fun _ _ _ h => h) (Or.inl ⟨by rfl, fun w _ => ?hsg3⟩) (fun _ => hHeld) (fun hcl3 => ?rsg3)
        case hsg3 => (simp only [List.getElem_toArray, List.getElem_cons_succ, List.getElem_cons_zero]; first | (go_simp; with_reducible rfl) | (go_simp; done) | rfl)
        simp only [List.getElem_toArray, List.getElem_cons_succ, List.getElem_cons_zero, Act.put, List.setIfInBounds_toArray, List.set_cons_zero, List.set_cons_succ]
        -- 3: Op.call { callee := Callee.builtin Builtin.len, args := #[Op
        refine' anyZ_pure (i := 3) (v := _) rfl (by rfl) (by kernel_rfl) (by kernel_rfl) (by kernel_rfl) hcl3 (fun _ _ _ h => h) (Or.inl ⟨by rfl, fun w _ => ?hsg4⟩) (fun _ => hHeld) (fun hcl4 => ?rsg4)
        case hsg4 => (simp only [List.getElem_toArray, List.getElem_cons_succ, List.getElem_cons_zero]; first | (go_simp; with_reducible rfl) | (go_simp; done) | rfl)
        simp only [List.getElem_toArray, List.getElem_cons_succ, List.getElem_cons_zero, Act.put, List.setIfInBounds_toArray, List.set_cons_zero, List.set_cons_succ]
        -- 4: Op.binOp BinOp.lss 3 (Operand.tmp 101) (Operand.tmp 103) 3
        refine' anyZ_pure (i := 4) (v := _) rfl (by rfl) (by kernel_rfl) (by kernel_rfl) (by kernel_rfl) hcl4 (fun _ _ _ h => h) (Or.inl ⟨by rfl, fun w _ => ?hsg5⟩) (fun _ => hHeld) (fun hcl5 => ?rsg5)
        case hsg5 => (simp only [List.getElem_toArray, List.getElem_cons_succ, List.getElem_cons_zero]; first | (go_simp; with_reducible rfl) | (go_simp; done) | rfl)
        simp only [List.getElem_toArray, List.getElem_cons_succ, List.getElem_cons_zero, Act.put, List.setIfInBounds_toArray, List.set_cons_zero, List.set_cons_succ]
        -- 5: Op.move (Operand.tmp 104)
        refine' anyZ_pure (i := 5) (v := _) rfl (by rfl) (by kernel_rfl) (by kernel_rfl) (by kernel_rfl) hcl5 (fun _ _ _ h => h) (Or.inl ⟨by rfl, fun w _ => ?hsg6⟩) (fun _ => hHeld) (fun hcl6 => ?rsg6)
        case hsg6 => (simp only [List.getElem_toArray, List.getElem_cons_succ, List.getElem_cons_zero]; first | (go_simp; with_reducible rfl) | (go_simp; done) | rfl)
        simp only [List.getElem_toArray, List.getElem_cons_succ, List.getElem_cons_zero, Act.put, List.setIfInBounds_toArray, List.set_cons_zero, List.set_cons_succ]
        -- 7: Op.move (Operand.tmp 0)
        refine' anyZ_pure (i := 7) (v := _) rfl (by rfl) (by kernel_rfl) (by kernel_rfl) (by kernel_rfl) hcl6 (fun _ _ _ h => h) (Or.inl ⟨by rfl, fun w _ => ?hsg7⟩) (fun _ => hHeld) (fun hcl7 => ?rsg7)
        case hsg7 => (simp only [List.getElem_toArray, List.getElem_cons_succ, List.getElem_cons_zero]; first | (go_simp; with_reducible rfl) | (go_simp; done) | rfl)
        simp only [List.getElem_toArray, List.getElem_cons_succ, List.getElem_cons_zero, Act.put, List.setIfInBounds_toArray, List.set_cons_zero, List.set_cons_succ]
        -- 8: Op.move (Operand.tmp 5)
        refine' anyZ_pure (i := 8) (v := _) rfl (by rfl) (by kernel_rfl) (by kernel_rfl) (by kernel_rfl) hcl7 (fun _ _ _ h => h) (Or.inl ⟨by rfl, fun w _ => ?hsg8⟩) (fun _ => hHeld) (fun hcl8 => ?rsg8)
        case hsg8 => (simp only [List.getElem_toArray, List.getElem_cons_succ, List.getElem_cons_zero]; first | (go_simp; with_reducible rfl) | (go_simp; done) | rfl)
        simp only [List.getElem_toArray, List.getElem_cons_succ, List.getElem_cons_zero, Act.put, List.setIfInBounds_toArray, List.set_cons_zero, List.set_cons_succ]
        -- 9: Op.move (Operand.tmp 5)
        refine' anyZ_pure (i := 9) (v := _) rfl (by rfl) (by kernel_rfl) (by kernel_rfl) (by kernel_rfl) hcl8 (fun _ _ _ h => h) (Or.inl ⟨by rfl, fun w _ => ?hsg9⟩) (fun _ => hHeld) (fun hcl9 => ?rsg9)
        case hsg9 => (simp only [List.getElem_toArray, List.getElem_cons_succ, List.getElem_cons_zero]; first | (go_simp; with_reducible rfl) | (go_simp; done) | rfl)
        simp only [List.getElem_toArray, List.getElem_cons_succ, List.getElem_cons_zero, Act.put, List.setIfInBounds_toArray, List.set_cons_zero, List.set_cons_succ]
        -- 10: Op.binOp BinOp.add 3 (Operand.tmp 109) (Operand.const (Value
        refine' anyZ_pure (i := 10) (v := _) rfl (by rfl) (by kernel_rfl) (by kernel_rfl) (by kernel_rfl) hcl9 (fun _ _ _ h => h) (Or.inl ⟨by rfl, fun w _ => ?hsg10⟩) (fun _ => hHeld) (fun hcl10 => ?rsg10)
        case hsg10 => (simp only [List.getElem_toArray, List.getElem_cons_succ, List.getElem_cons_zero]; first | (go_simp; with_reducible rfl) | (go_simp; done) | rfl)
        simp only [List.getElem_toArray, List.getElem_cons_succ, List.getElem_cons_zero, Act.put, List.setIfInBounds_toArray, List.set_cons_zero, List.set_cons_succ]
        -- 11: Op.slice 9 (Operand.tmp 107) (some (Operand.tmp 108)) (some 
        refine' anyZ_pure (i := 11) (v := _) rfl (by rfl) (by kernel_rfl) (by kernel_rfl) (by kernel_rfl) hcl10 (fun _ _ _ h => h) (Or.inl ⟨by rfl, fun w _ => ?hsg11⟩) (fun _ => hHeld) (fun hcl11 => ?rsg11)
        case hsg11 => (simp only [List.getElem_toArray, List.getElem_cons_succ, List.getElem_cons_zero]; first | (go_simp; with_reducible rfl) | (go_simp; done) | rfl)
        simp only [List.getElem_toArray, List.getElem_cons_succ, List.getElem_cons_zero, Act.put, List.setIfInBounds_toArray, List.set_cons_zero, List.set_cons_succ]
        -- 6: Op.call { callee := Callee.value (Operand.func 14), args := 
        refine anyZ_oneG (i := 6) hcl11 (by kernel_rfl) (by simp only [List.getElem?_toArray, List.getElem?_cons_succ, List.getElem?_cons_zero]; rfl) (by rfl) (fun hcl12 K hK => ?_)
        go_simp
        refine (in_signs (r.take 2) _).mono ?_
        rintro e wa ⟨rfl, hba, hcon⟩
        have HCON := Lib.hid (hcon _ rfl)
        have HBA : Hid (Below w.heap.size w wa) := Lib.hid (hbl.out.trans ((btr (bdr (bre wo)) hba).mono hbl.out.size))
        have HOA : Hid (OwnToksR w.heap.size wa u4 ts) := Lib.hid (own_only hown.out (Only.of_below (btr (bdr (bre wo)) hba) fun _ => False) fun _ _ h => h)
        clear hba hcon
        refine hK _ _ (fun _ => ?_) ?_
        · exact trivial
        clear hK K hHeld
        try simp only [Act.put, List.setIfInBounds_toArray, List.set_cons_zero, List.set_cons_succ]
        refine anyZ_chain_at (by kernel_rfl) ?_
        simp only [List.drop_succ_cons, List.drop_zero]
        rw [HX2.out]
        clear hw1 hw2 d2 d2n p0 p1 p2 p3 p4
        go_wp2_with fail
        refine HCON.out.mono ?_
        rintro e wb ⟨rfl, hw⟩
        have hw' := hw.symm
        subst hw'
        clear hw HCON hbl hown
        cases hq : signRows.contains (r.take 2) with
        | true =>
          have HCM2 := HS2.out hq h2
          clear HS1 HS2 HSN
          go_wp2_with fail
          rw [HX2.out]
          refine (in_signs (r.take 2) _).mono ?_
          rintro e wc ⟨rfl, hbc, hcon⟩
          have HCON := Lib.hid (hcon _ rfl)
          have HBC : Hid (Below w.heap.size w wc) := Lib.hid (HBA.out.trans (hbc.mono HBA.out.size))
          have HOC : Hid (OwnToksR w.heap.size wc u4 ts) := Lib.hid (own_only HOA.out (Only.of_below hbc fun _ => False) fun _ _ h => h)
          clear hbc hcon HBA HOA
          go_wp2_with fail
          refine HCON.out.mono ?_
          rintro e wd ⟨rfl, hw⟩
          have hw' := hw.symm
          subst hw'
          clear hw HCON
          rw [hq]
          have hz2 := HZ2.out
          clear hq
          go_upto_region 29 with (at_builtin; refine wpList_app rfl _ _ 28 33 3 32 rowTokR rfl w.heap.size _ ts.length (ts.flatMap tokCells) rfl (World.ownsRow.alloc HOC.out _) _ 1 1 (tokCells ⟨4, r.take 2, i⟩) rfl rfl (lies_three _ _ _ _ _) (Nat.le_refl _) (fun h => by cases h) (by simp [Value.oneCell', tokCells]) (by unfold maxLen; omega) (by omega) (by exact (HBC.out.alloc HBC.out.size _).size) ?_; intro v' w9 h9 hg9 hb9)
          have HOW9 : Hid (OwnToksR w.heap.size w9 v' (ts ++ [⟨4, r.take 2, i⟩])) := Lib.hid (by unfold OwnToksR; rw [flat_snoc, List.length_append]; exact h9)
          have HB9 : Hid (Below w.heap.size w w9) := Lib.hid ((HBC.out.alloc HBC.out.size _).trans hb9)
          have HCM9 := HCM2
          clear h9 hg9 hb9
          go_wp2_with fail
          go_roundw
          case rel => exact ⟨i + 2, ts ++ [⟨4, r.take 2, i⟩], by first | rfl | go_num, by omega, by simp; omega, HB9, HOW9, HCM9⟩
          case measure => simp [intOf]; omega
        | false =>
          have HQ := Lib.hid hq
          clear hq HS2
          go_wp2_with fail
          refine (in_signs (r.take 1) _).mono ?_
          rintro e wc ⟨rfl, hbc, hcon⟩
          have HCON := Lib.hid (hcon _ rfl)
          have HBC : Hid (Below w.heap.size w wc) := Lib.hid (HBA.out.trans (hbc.mono HBA.out.size))
          have HOC : Hid (OwnToksR w.heap.size wc u4 ts) := Lib.hid (own_only HOA.out (Only.of_below hbc fun _ => False) fun _ _ h => h)
          clear hbc hcon HBA HOA
          go_wp2_with fail
          refine HCON.out.mono ?_
          rintro e wd ⟨rfl, hw⟩
          have hw' := hw.symm
          subst hw'
          clear hw HCON
          cases hq1 : signRows.contains (r.take 1) with
          | true =>
            have HCM1 := HS1.out hq1 (.inr HQ.out)
            have hz1 := HZ1.out
            clear HS1 HSN hq1
            go_upto_region 29 with (at_builtin; refine wpList_app rfl _ _ 28 33 3 32 rowTokR rfl w.heap.size _ ts.length (ts.flatMap tokCells) rfl (World.ownsRow.alloc HOC.out _) _ 1 1 (tokCells ⟨4, r.take 1, i⟩) rfl rfl (lies_three _ _ _ _ _) (Nat.le_refl _) (fun h => by cases h) (by simp [Value.oneCell', tokCells]) (by unfold maxLen; omega) (by omega) (by exact (HBC.out.alloc HBC.out.size _).size) ?_; intro v' w9 h9 hg9 hb9)
            have HOW9 : Hid (OwnToksR w.heap.size w9 v' (ts ++ [⟨4, r.take 1, i⟩])) := Lib.hid (by unfold OwnToksR; rw [flat_snoc, List.length_append]; exact h9)
            have HB9 : Hid (Below w.heap.size w w9) := Lib.hid ((HBC.out.alloc HBC.out.size _).trans hb9)
            have HCM9 := HCM1
            clear h9 hg9 hb9
            go_wp2_with fail
            go_roundw
            case rel => exact ⟨i + 1, ts ++ [⟨4, r.take 1, i⟩], by first | rfl | go_num, by omega, by simp; omega, HB9, HOW9, HCM9⟩
            case measure => simp [intOf]; omega
          | false =>
            have HE := Lib.hid (HSN.out hq1 (.inr HQ.out))
            clear HS1 HSN hq1
            go_wp2_with fail
            go_ret2
            exact ⟨fun _ => rfl, (fun ts' h => by rw [HE.out] at h; cases h), HBC.out⟩
      · have d2 : decide ((i : Int) + 1 < s.size) = false := decide_eq_false (by omega)
        have d2n : decide (i + 1 < s.size) = false := decide_eq_false (by omega)
        have hw1 : IntKind.i64.wrap ((i : Int) + 1) = (i : Int) + 1 := by rw [IntKind.wrap_i64]; omega
        have hw2 : IntKind.i64.wrap ((i : Int) + 2) = (i : Int) + 2 := by rw [IntKind.wrap_i64]; omega
        refine region_anyZ (z := 12) (S := fun _ => True) (by kernel_rfl) ?_
        refine anyZ_begin (fun hcl0 => ?_)
        refine anyZ_held (by exact trivial) (fun hHeld => ?_)
        -- 0: Op.move (Operand.tmp 5)
        refine' anyZ_pure (i := 0) (v := _) rfl (by rfl) (by kernel_rfl) (by kernel_rfl) (by kernel_rfl) hcl0 (fun _ _ _ h => h) (Or.inl ⟨by rfl, fun w _ => ?hsh1⟩) (fun _ => hHeld) (fun hcl1 => ?rsh1)
        case hsh1 => (simp only [List.getElem_toArray, List.getElem_cons_zero]; first | (go_simp; with_reducible rfl) | (go_simp; done) | rfl)
        simp only [List.getElem_toArray, List.getElem_cons_zero, Act.put, List.setIfInBounds_toArray, List.set_cons_zero, List.set_cons_succ]
        -- 1: Op.binOp BinOp.add 3 (Operand.tmp 100) (Operand.const (Value
        refine' anyZ_pure (i := 1) (v := _) rfl (by rfl) (by kernel_rfl) (by kernel_rfl) (by kernel_rfl) hcl1 (fun _ _ _ h => h) (Or.inl ⟨by rfl, fun w _ => ?hsh2⟩) (fun _ => hHeld) (fun hcl2 => ?rsh2)
        case hsh2 => (simp only [List.getElem_toArray, List.getElem_cons_succ, List.getElem_cons_zero]; first | (go_simp; with_reducible rfl) | (go_simp; done) | rfl)
        simp only [List.getElem_toArray, List.getElem_cons_succ, List.getElem_cons_zero, Act.put, List.setIfInBounds_toArray, List.set_cons_zero, List.set_cons_succ]
        -- 2: Op.move (Operand.tmp 0)
        refine' anyZ_pure (i := 2) (v := _) rfl (by rfl) (by kernel_rfl) (by kernel_rfl) (by kernel_rfl) hcl2 (fun _ _ _ h => h) (Or.inl ⟨by rfl, fun w _ => ?hsh3⟩) (fun _ => hHeld) (fun hcl3 => ?rsh3)
        case hsh3 => (simp only [List.getElem_toArray, List.getElem_cons_succ, List.getElem_cons_zero]; first | (go_simp; with_reducible rfl) | (go_simp; done) | rfl)
        simp only [List.getElem_toArray, List.getElem_cons_succ, List.getElem_cons_zero, Act.put, List.setIfInBounds_toArray, List.set_cons_zero, List.set_cons_succ]
        -- 3: Op.call { callee := Callee.builtin Builtin.len, args := #[Op
        refine' anyZ_pure (i := 3) (v := _) rfl (by rfl) (by kernel_rfl) (by kernel_rfl) (by kernel_rfl) hcl3 (fun _ _ _ h => h) (Or.inl ⟨by rfl, fun w _ => ?hsh4⟩) (fun _ => hHeld) (fun hcl4 => ?rsh4)
        case hsh4 => (simp only [List.getElem_toArray, List.getElem_cons_succ, List.getElem_cons_zero]; first | (go_simp; with_reducible rfl) | (go_simp; done) | rfl)
        simp only [List.getElem_toArray, List.getElem_cons_succ, List.getElem_cons_zero, Act.put, List.setIfInBounds_toArray, List.set_cons_zero, List.set_cons_succ]
        -- 4: Op.binOp BinOp.lss 3 (Operand.tmp 101) (Operand.tmp 103) 3
        refine' anyZ_pure (i := 4) (v := _) rfl (by rfl) (by kernel_rfl) (by kernel_rfl) (by kernel_rfl) hcl4 (fun _ _ _ h => h) (Or.inl ⟨by rfl, fun w _ => ?hsh5⟩) (fun _ => hHeld) (fun hcl5 => ?rsh5)
        case hsh5 => (simp only [List.getElem_toArray, List.getElem_cons_succ, List.getElem_cons_zero]; first | (go_simp; with_reducible rfl) | (go_simp; done) | rfl)
        simp only [List.getElem_toArray, List.getElem_cons_succ, List.getElem_cons_zero, Act.put, List.setIfInBounds_toArray, List.set_cons_zero, List.set_cons_succ]
        -- 5: Op.move (Operand.tmp 104)
        refine' anyZ_pure (i := 5) (v := _) rfl (by rfl) (by kernel_rfl) (by kernel_rfl) (by kernel_rfl) hcl5 (fun _ _ _ h => h) (Or.inl ⟨by rfl, fun w _ => ?hsh6⟩) (fun _ => hHeld) (fun hcl6 => ?rsh6)
        case hsh6 => (simp only [List.getElem_toArray, List.getElem_cons_succ, List.getElem_cons_zero]; first | (go_simp; with_reducible rfl) | (go_simp; done) | rfl)
        simp only [List.getElem_toArray, List.getElem_cons_succ, List.getElem_cons_zero, Act.put, List.setIfInBounds_toArray, List.set_cons_zero, List.set_cons_succ]
        -- 6 (not wanted): Op.call { callee := Callee.value (Operand.func 14), args := 
        refine' anyZ_pure (i := 6) (v := undef) rfl (by rfl) (by kernel_rfl) (by kernel_rfl) (by kernel_rfl) hcl6 (fun _ _ _ h => h) (Or.inr ⟨by rfl, rfl⟩) (fun _ => hHeld) (fun hcl7 => ?rsh7)
        simp only [Act.put, List.setIfInBounds_toArray, List.set_cons_zero, List.set_cons_succ]
        -- 7 (not wanted): Op.move (Operand.tmp 0)
        refine' anyZ_pure (i := 7) (v := undef) rfl (by rfl) (by kernel_rfl) (by kernel_rfl) (by kernel_rfl) hcl7 (fun _ _ _ h => h) (Or.inr ⟨by rfl, rfl⟩) (fun _ => hHeld) (fun hcl8 => ?rsh8)
        simp only [Act.put, List.setIfInBounds_toArray, List.set_cons_zero, List.set_cons_succ]
        -- 8 (not wanted): Op.move (Operand.tmp 5)
        refine' anyZ_pure (i := 8) (v := undef) rfl (by rfl) (by kernel_rfl) (by kernel_rfl) (by kernel_rfl) hcl8 (fun _ _ _ h => h) (Or.inr ⟨by rfl, rfl⟩) (fun _ => hHeld) (fun hcl9 => ?rsh9)
        simp only [Act.put, List.setIfInBounds_toArray, List.set_cons_zero, List.set_cons_succ]
        -- 9 (not wanted): Op.move (Operand.tmp 5)
        refine anyZ_oneSkip (i := 9) hcl9 (by kernel_rfl) (by simp only [List.getElem?_toArray, List.getElem?_cons_succ, List.getElem?_cons_zero]; rfl) (by rfl) (fun _ => hHeld) (fun hcl10 => ?_)
        simp only [Act.put, List.setIfInBounds_toArray, List.set_cons_zero, List.set_cons_succ]
        -- 10 (not wanted): Op.binOp BinOp.add 3 (Operand.tmp 109) (Operand.const (Value
        refine anyZ_oneSkip (i := 10) hcl10 (by kernel_rfl) (by simp only [List.getElem?_toArray, List.getElem?_cons_succ, List.getElem?_cons_zero]; rfl) (by rfl) (fun _ => hHeld) (fun hcl11 => ?_)
        simp only [Act.put, List.setIfInBounds_toArray, List.set_cons_zero, List.set_cons_succ]
        -- 11 (not wanted): Op.slice 9 (Operand.tmp 107) (some (Operand.tmp 108)) (some 
        refine anyZ_oneSkip (i := 11) hcl11 (by kernel_rfl) (by simp only [List.getElem?_toArray, List.getElem?_cons_succ, List.getElem?_cons_zero]; rfl) (by rfl) (fun _ => hHeld) (fun hcl12 => ?_)
        simp only [Act.put, List.setIfInBounds_toArray, List.set_cons_zero, List.set_cons_succ]
        clear hHeld
        refine anyZ_chain_at (by kernel_rfl) ?_
        simp only [List.drop_succ_cons, List.drop_zero]
        have HBA : Hid (Below w.heap.size w wo.drew) := Lib.hid (hbl.out.trans ((bdr (bre wo)).mono hbl.out.size))
        have HOA : Hid (OwnToksR w.heap.size wo.drew u4 ts) := Lib.hid (own_only hown.out (Only.of_below (bdr (bre wo)) fun _ => False) fun _ _ h => h)
        clear hbl hown
        generalize wo.drew = wb at *
        clear hw1 hw2 d2 d2n
        go_wp2_with fail
        refine (in_signs (r.take 1) _).mono ?_
        rintro e wc ⟨rfl, hbc, hcon⟩
        have HCON := Lib.hid (hcon _ rfl)
        have HBC : Hid (Below w.heap.size w wc) := Lib.hid (HBA.out.trans (hbc.mono HBA.out.size))
        have HOC : Hid (OwnToksR w.heap.size wc u4 ts) := Lib.hid (own_only HOA.out (Only.of_below hbc fun _ => False) fun _ _ h => h)
        clear hbc hcon HBA HOA
        go_wp2_with fail
        refine HCON.out.mono ?_
        rintro e wd ⟨rfl, hw⟩
        have hw' := hw.symm
        subst hw'
        clear hw HCON
        cases hq1 : signRows.contains (r.take 1) with
        | true =>
          have HCM1 := HS1.out hq1 (.inl h2)
          have hz1 := HZ1.out
          clear HS1 HSN hq1
          go_upto_region 29 with (at_builtin; refine wpList_app rfl _ _ 28 33 3 32 rowTokR rfl w.heap.size _ ts.length (ts.flatMap tokCells) rfl (World.ownsRow.alloc HOC.out _) _ 1 1 (tokCells ⟨4, r.take 1, i⟩) rfl rfl (lies_three _ _ _ _ _) (Nat.le_refl _) (fun h => by cases h) (by simp [Value.oneCell', tokCells]) (by unfold maxLen; omega) (by omega) (by exact (HBC.out.alloc HBC.out.size _).size) ?_; intro v' w9 h9 hg9 hb9)
          have HOW9 : Hid (OwnToksR w.heap.size w9 v' (ts ++ [⟨4, r.take 1, i⟩])) := Lib.hid (by unfold OwnToksR; rw [flat_snoc, List.length_append]; exact h9)
          have HB9 : Hid (Below w.heap.size w w9) := Lib.hid ((HBC.out.alloc HBC.out.size _).trans hb9)
          have HCM9 := HCM1
          clear h9 hg9 hb9
          go_wp2_with fail
          go_roundw
          case rel => exact ⟨i + 1, ts ++ [⟨4, r.take 1, i⟩], by first | rfl | go_num, by omega, by simp; omega, HB9, HOW9, HCM9⟩
          case measure => simp [intOf]; omega
        | false =>
          have HE := Lib.hid (HSN.out hq1 (.inl h2))
          clear HS1 HSN hq1
          go_wp2_with fail
          go_ret2
          exact ⟨fun _ => rfl, (fun ts' h => by rw [HE.out] at h; cases h), HBC.out⟩
    have hpb : partN b = true := (part_class b).2 (by rw [← HCC.out]; omega)
    obtain ⟨n, hn⟩ : ∃ n, n = runOf r := ⟨_, rfl⟩
    obtain ⟨T, hT⟩ : ∃ T, T = r.take n := ⟨_, rfl⟩
    have hta : tokAt (s.data.toList.drop i) = (kindOf T, n) := by
      unfold tokAt
      rw [← hr, if_pos (by rw [hdc]; show partN (s[i]'hlt).toNat = true; rw [← HBB.out]; exact hpb), ← hn, ← hT]
    have hnp : 0 < n := by rw [hn, hdc]; exact run_pos (by rw [← HBB.out]; exact hpb)
    have hnle : i + n ≤ s.size := by have := run_le r; rw [← hn, hrl] at this; omega
    have hex : s.extract i (i + n) = mk8 T := ext_mk s i (i + n) T (by rw [← hr, hT, Nat.add_sub_cancel_left])
    have HEX := Lib.hid hex
    have HSZ : Hid ((mk8 T).size ≤ 281474976710656) := Lib.hid (by rw [← str_len]; show T.length ≤ _; rw [hT, List.length_take, hrl]; omega)
    have HRN : Hid (n = runOf (s.data.toList.drop i)) := Lib.hid (by rw [← hr]; exact hn)
    have HSTEP : Hid (∀ K, kindOf T = K → K ≠ 0 → Hid (Came s.data.toList (i + n) (ts ++ [⟨K, T, i⟩]))) := Lib.hid fun K h1 h2 => Lib.hid (by
      have := came_tok hcm.out HLL.out HST.out HST2.out (by rw [hta, h1]; exact h2)
      rw [hta, ← hr, h1] at this
      simp only at this
      rw [← hT] at this
      exact this)
    have HNONE : Hid (kindOf T = 0 → toksOf s.data.toList = none) := Lib.hid fun h => came_none hcm.out HLL.out HST.out HST2.out (by rw [hta]; exact h)
    have d0 : decide ((0 : Int) < c) = true := decide_eq_true (by omega)
    have d0n : decide (0 < c) = true := decide_eq_true (by omega)
    clear hcm hgb hdc hbl2 h3 h35 hc0 hpb hn hT hta hex hr hrl
    go_wp2_with fail
    refine (HCL.out _).mono ?_
    rintro e w1 ⟨rfl, hw⟩
    have hw' := hw.symm
    subst hw'
    clear hw HCL
    go_upto_block 4 with fail
    clear e3 g3 n3 m3 e35 g35 n35 m35 d0 d0n hcl
    obtain ⟨wo, hwo⟩ : ∃ wo : World, wo = wr := ⟨_, rfl⟩
    rw [← hwo] at hbl hown ⊢
    clear hwo
    go_cut [7] from 41 to 60 (fun t w' => t = .int .i64 ((i + n : Nat) : Int) ∧ w' = wo)
    case first =>
      go_wp2_with fail
      go_loopw [7] (fun si wi => ∃ m : Nat, i ≤ m ∧ m ≤ s.size ∧ si = .int .i64 m ∧ wi = wo ∧ Hid (∀ j (h : j < s.size), i ≤ j → j < m → partN (s[j]'h).toNat = true)) (fun si _ => s.size - (intOf si).toNat)
      case atStart => exact ⟨i, Nat.le_refl _, hi, rfl, rfl, Lib.hid fun j _ h1 h2 => absurd h1 (by omega)⟩
      case round =>
        obtain ⟨m, him, hm, rfl, rfl, hall⟩ := hrel
        by_cases hlm : m < s.size
        rotate_left
        · have d2 : decide ((m : Int) < s.size) = false := decide_eq_false (by omega)
          have d2n : decide (m < s.size) = false := decide_eq_false hlm
          have HM : Hid (Value.int .i64 (m : Int) = .int .i64 ((i + n : Nat) : Int)) := Lib.hid (by
            have := run_until partN s i m him hm (fun j h h1 h2 => hall.out j h h1 h2) (fun h => absurd h hlm)
            have h2 : n = m - i := HRN.out.trans this
            rw [h2, show i + (m - i) = m by omega])
          clear hall hlm
          go_wp2_with fail
          go_meet
          case rel => exact ⟨HM.out, rfl⟩
        have d2 : decide ((m : Int) < s.size) = true := decide_eq_true (by omega)
        have d2n : decide (m < s.size) = true := decide_eq_true hlm
        obtain ⟨q, hq⟩ : ∃ q, q = classOf (s[m]'hlm).toNat := ⟨_, rfl⟩
        have HQL : Hid (∀ w', Calls Tryd.prog 27 #[.int .u8 (s[m]'hlm).toNat] w' fun e w'' => e = .returned (.int .i64 q) ∧ w'' = w') := Lib.hid fun w' => by rw [hq]; exact class_any _ w'
        have hql := class_le (s[m]'hlm).toNat
        rw [← hq] at hql
        have hpq := part_class (s[m]'hlm).toNat
        rw [← hq] at hpq
        clear hq
        cases hp : partN (s[m]'hlm).toNat with
        | true =>
          have h12 := hpq.1 hp
          have HA : Hid (∀ j (h : j < s.size), i ≤ j → j < m + 1 → partN (s[j]'h).toNat = true) := Lib.hid fun j h h1 h2 => by
            rcases Nat.lt_or_ge j m with h' | h'
            · exact hall.out j h h1 h'
            · have : j = m := by omega
              subst this
              exact hp
          have f1 : decide ((0 : Int) < q) = true := decide_eq_true (by omega)
          have f1n : decide (0 < q) = true := decide_eq_true (by omega)
          have f2 : decide ((q : Int) < 3) = true := decide_eq_true (by omega)
          have f2n : decide (q < 3) = true := decide_eq_true (by omega)
          clear hp hall hpq hql h12
          go_wp2_with fail
          refine (HQL.out _).mono ?_
          rintro e w1 ⟨rfl, hw⟩
          have hw' := hw.symm
          subst hw'
          clear hw
          go_wp2_with fail
          refine (HQL.out _).mono ?_
          rintro e w1 ⟨rfl, hw⟩
          have hw' := hw.symm
          subst hw'
          clear hw
          go_wp2_with fail
          go_roundw
          case rel => exact ⟨m + 1, by omega, by omega, by go_num, by trivial, HA⟩
          case measure => simp [intOf]; try omega
        | false =>
          have HM : Hid (Value.int .i64 (m : Int) = .int .i64 ((i + n : Nat) : Int)) := Lib.hid (by
            have := run_until partN s i m him hm (fun j h h1 h2 => hall.out j h h1 h2) (fun _ => hp)
            have h2 : n = m - i := HRN.out.trans this
            rw [h2, show i + (m - i) = m by omega])
          have h03 : q = 0 ∨ q = 3 := by
            rcases (by omega : q = 0 ∨ q = 3 ∨ q = 1 ∨ q = 2) with h | h | h
            · exact .inl h
            · exact .inr h
            · rw [hpq.2 h] at hp; cases hp
          clear hp hall hpq hql
          rcases h03 with rfl | rfl
          · go_wp2_with fail
            refine (HQL.out _).mono ?_
            rintro e w1 ⟨rfl, hw⟩
            have hw' := hw.symm
            subst hw'
            clear hw
            go_wp2_with fail
            go_meet
            case rel => exact ⟨HM.out, rfl⟩
          · go_wp2_with fail
            refine (HQL.out _).mono ?_
            rintro e w1 ⟨rfl, hw⟩
            have hw' := hw.symm
            subst hw'
            clear hw
            go_wp2_with fail
            refine (HQL.out _).mono ?_
            rintro e w1 ⟨rfl, hw⟩
            have hw' := hw.symm
            subst hw'
            clear hw
            go_wp2_with fail
            go_meet
            case rel => exact ⟨HM.out, rfl⟩
    obtain ⟨rfl, hw⟩ := hcut
    have hw' := hw.symm
    subst hw'
    clear hw
    have p4 : i ≤ i + n := by omega
    go_upto_region 16 with fail
    rw [HEX.out]
    clear p4
    go_wp2_with fail
    refine (in_words T wo).mono ?_
    rintro e w2 ⟨rfl, hb2, hcon⟩
    have HCON := Lib.hid (hcon _ rfl)
    have HB2 : Hid (Below w.heap.size w w2) := Lib.hid (hbl.out.trans (hb2.mono hbl.out.size))
    have HO2 : Hid (OwnToksR w.heap.size w2 u4 ts) := Lib.hid (own_only hown.out (Only.of_below hb2 fun _ => False) fun _ _ h => h)
    clear hb2 hcon hbl hown
    go_wp2_with fail
    refine HCON.out.mono ?_
    rintro e w3 ⟨rfl, hw⟩
    have hw' := hw.symm
    subst hw'
    clear hw HCON
    cases hq : tokWords.contains T with
    | true =>
      have HCM9 := HSTEP.out 3 (by unfold kindOf; rw [if_pos hq]) (by omega)
      clear hq
      go_upto_region 22 with (at_builtin; refine wpList_app rfl _ _ 28 33 3 32 rowTokR rfl w.heap.size _ ts.length (ts.flatMap tokCells) rfl (World.ownsRow.alloc HO2.out _) _ 1 1 (tokCells ⟨3, T, i⟩) rfl rfl (lies_three _ _ _ _ _) (Nat.le_refl _) (fun h => by cases h) (by simp [Value.oneCell', tokCells]) (by unfold maxLen; omega) (by omega) (by exact (HB2.out.alloc HB2.out.size _).size) ?_; intro v' w9 h9 hg9 hb9)
      have HOW9 : Hid (OwnToksR w.heap.size w9 v' (ts ++ [⟨3, T, i⟩])) := Lib.hid (by unfold OwnToksR; rw [flat_snoc, List.length_append]; exact h9)
      have HB9 : Hid (Below w.heap.size w w9) := Lib.hid ((HB2.out.alloc HB2.out.size _).trans hb9)
      have HCM9 := HCM9
      clear h9 hg9 hb9
      go_wp2_with fail
      go_roundw
      case rel => exact ⟨i + n, ts ++ [⟨3, T, i⟩], by first | rfl | go_num, by omega, by simp; omega, HB9, HOW9, HCM9⟩
      case measure => simp [intOf]; omega
    | false =>
      have HW := Lib.hid hq
      clear hq
      go_wp2_with fail
      refine (rname8_any (mk8 T) _ (by have := HSZ.out; omega)).mono ?_
      rintro e w4 ⟨rfl, hw⟩
      have hw' := hw.symm
      subst hw'
      clear hw
      have hmk : shapedB (mk8 T).data.toList = shapedB T := rfl
      rw [hmk]
      clear hmk
      cases hq : shapedB T with
      | true =>
        have HCM9 := HSTEP.out 1 (by unfold kindOf; rw [HW.out, if_neg (by decide), if_pos hq]) (by omega)
        clear hq
        go_upto_region 22 with (at_builtin; refine wpList_app rfl _ _ 28 33 3 32 rowTokR rfl w.heap.size _ ts.length (ts.flatMap tokCells) rfl (World.ownsRow.alloc HO2.out _) _ 1 1 (tokCells ⟨1, T, i⟩) rfl rfl (lies_three _ _ _ _ _) (Nat.le_refl _) (fun h => by cases h) (by simp [Value.oneCell', tokCells]) (by unfold maxLen; omega) (by omega) (by exact (HB2.out.alloc HB2.out.size _).size) ?_; intro v' w9 h9 hg9 hb9)
        have HOW9 : Hid (OwnToksR w.heap.size w9 v' (ts ++ [⟨1, T, i⟩])) := Lib.hid (by unfold OwnToksR; rw [flat_snoc, List.length_append]; exact h9)
        have HB9 : Hid (Below w.heap.size w w9) := Lib.hid ((HB2.out.alloc HB2.out.size _).trans hb9)
        have HCM9 := HCM9
        clear h9 hg9 hb9
        go_wp2_with fail
        go_roundw
        case rel => exact ⟨i + n, ts ++ [⟨1, T, i⟩], by first | rfl | go_num, by omega, by simp; omega, HB9, HOW9, HCM9⟩
        case measure => simp [intOf]; omega
      | false =>
        have HK : Hid (kindOf T = if numB T then 2 else 0) := Lib.hid (by unfold kindOf; rw [HW.out, if_neg (by decide), hq, if_neg (by decide)])
        clear hq
        go_wp2_with fail
        refine (rnumber_any (mk8 T) HSZ.out _).mono ?_
        rintro e w5 ⟨rfl, hw⟩
        have hw' := hw.symm
        subst hw'
        clear hw
        have hmk : numOf8 (mk8 T).data.toList = numOf8 T := rfl
        rw [hmk]
        clear hmk
        cases hq : numB T with
        | true =>
          have HCM9 := HSTEP.out 2 (by rw [HK.out, if_pos hq]) (by omega)
          have hv : numOf8 T = (valOf T : Int) := by unfold numOf8; rw [if_pos hq]
          rw [hv]
          have d5 : decide ((0 : Int) ≤ (valOf T : Nat)) = true := decide_eq_true (by omega)
          clear hq hv
          go_upto_region 22 with (at_builtin; refine wpList_app rfl _ _ 28 33 3 32 rowTokR rfl w.heap.size _ ts.length (ts.flatMap tokCells) rfl (World.ownsRow.alloc HO2.out _) _ 1 1 (tokCells ⟨2, T, i⟩) rfl rfl (lies_three _ _ _ _ _) (Nat.le_refl _) (fun h => by cases h) (by simp [Value.oneCell', tokCells]) (by unfold maxLen; omega) (by omega) (by exact (HB2.out.alloc HB2.out.size _).size) ?_; intro v' w9 h9 hg9 hb9)
          have HOW9 : Hid (OwnToksR w.heap.size w9 v' (ts ++ [⟨2, T, i⟩])) := Lib.hid (by unfold OwnToksR; rw [flat_snoc, List.length_append]; exact h9)
          have HB9 : Hid (Below w.heap.size w w9) := Lib.hid ((HB2.out.alloc HB2.out.size _).trans hb9)
          have HCM9 := HCM9
          clear h9 hg9 hb9
          go_wp2_with fail
          go_roundw
          case rel => exact ⟨i + n, ts ++ [⟨2, T, i⟩], by first | rfl | go_num, by omega, by simp; omega, HB9, HOW9, HCM9⟩
          case measure => simp [intOf]; omega
        | false =>
          have HE : Hid (toksOf s.data.toList = none) := Lib.hid (HNONE.out (by rw [HK.out, if_neg (by rw [hq]; decide)]))
          have hv : numOf8 T = -1 := by unfold numOf8; rw [if_neg (by rw [hq]; decide)]
          rw [hv]
          clear hq hv
          go_wp2_with fail
          go_ret2
          exact ⟨fun _ => rfl, (fun ts' h => by rw [HE.out] at h; cases h), HB2.out⟩
end Go.Proofs.YtffghdehimhpiaaDoor

