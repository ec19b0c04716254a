/- Walk of the law: ReelRows. -/
import Derived.Test.YtacfkhnajdneeaaDoorRlAwake
namespace Go.Proofs.YtacfkhnajdneeaaDoor
open Go.RowKit

def ownRows (l : List (List UInt8)) : List (List UInt8) := (l.take 8).map fun p => p.take 300
theorem ownRows_len (l : List (List UInt8)) : (ownRows l).length ≤ 8 := by unfold ownRows; rw [List.length_map, List.length_take]; omega
theorem ownRows_mem {l : List (List UInt8)} {x : List UInt8} (h : x ∈ ownRows l) : x.length ≤ 300 := by
  obtain ⟨p, -, rfl⟩ := List.mem_map.1 h
  rw [List.length_take]
  omega
theorem ownRows_next (l : List (List UInt8)) (k : Nat) (hk : k < l.length) : ownRows (l.take (k + 1)) = if k < 8 then ownRows (l.take k) ++ [l[k].take 300] else ownRows (l.take k) := by
  unfold ownRows
  by_cases h : k < 8
  · rw [if_pos h, List.take_take, List.take_take, Nat.min_eq_right (by omega), Nat.min_eq_right (by omega), List.take_succ_eq_append_getElem hk, List.map_append]
    rfl
  · rw [if_neg h, List.take_take, List.take_take, Nat.min_eq_left (by omega), Nat.min_eq_left (by omega)]
theorem layAll_small : ∀ (l : List (List UInt8)) (n : Nat), (∀ x ∈ l, x.length ≤ n) → (layAll l).length ≤ l.length * (n + 10) := by
  intro l n
  induction l with
  | nil => intro _; simp [layAll]
  | cons x l ih =>
    intro h
    have h1 := ih fun y hy => h y (by simp [hy])
    have h2 := h x (by simp)
    have h3 : (layOne x).length ≤ x.length + 10 := by
      have := (Vi.varint_length x.length)
      unfold layOne
      rw [List.length_append]
      omega
    rw [layAll_cons, List.length_append, List.length_cons, Nat.succ_mul]
    omega

set_option maxRecDepth 20000 in
set_option maxHeartbeats 3200000 in
theorem rows_calls (v u : Value) (l : List (List UInt8)) (raw : List UInt8) (cut : Nat) (hcut : cut < 65536) (w : World) (hv : Rows8 w v l) (hu : Bytes w u raw) :
    Calls Tryd.prog 3 #[v, u, .int .u16 cut] w fun e w' => e = .returned (.bool true) ∧ Below w.heap.size w w' := by
  obtain ⟨a, c, rfl, hm, hc, -, hrow⟩ := id hv
  obtain ⟨a2, c2, rfl, hm2, hc2, -, -⟩ := id hu
  have HV := Lib.hid hv
  have HU := Lib.hid hu
  have HR := Lib.hid hrow
  obtain ⟨L, hL⟩ : ∃ L, L = l.length := ⟨_, rfl⟩
  rw [← hL] at hm hc ⊢
  have HL := Lib.hid hL
  obtain ⟨N, hN⟩ : ∃ N, N = raw.length := ⟨_, rfl⟩
  have HN := Lib.hid hN
  rw [← hN] at hm2 hc2 HU ⊢
  clear hv hu hrow hL hN
  unfold maxLen at hm hm2
  go_enter Tryd.func3, Tryd.ntmps3
  go_wp2_with fail
  refine (awake_any w).mono ?_
  rintro e w1 ⟨rfl, hb1⟩
  have HB1 := Lib.hid hb1
  clear hb1
  go_wp2_with fail
  go_loopw [7, 8, 9, 24] (fun out _ _ i wr => ∃ k : Nat, k ≤ L ∧ i = .int .i64 k ∧ Hid (RecsAt w.heap.size wr out (ownRows (l.take k))) ∧ Hid (Below w.heap.size w wr)) (fun _ _ _ i _ => L - (intOf i).toNat)
  case atStart => exact ⟨0, by omega, rfl, Lib.hid (RecsAt.nil _ _), HB1⟩
  case round =>
    obtain ⟨k, hk, rfl, hown, hb⟩ := hrel
    by_cases hlt : k < L
    · have hkl : k < l.length := by rw [← HL.out]; exact hlt
      rcases HR.out with h0 | ⟨g, o, rfl, hcell⟩
      · rw [h0] at hkl; simp at hkl
      · obtain ⟨x, hx, hbx⟩ := hcell k _ (List.getElem?_eq_getElem hkl)
        have hu' : wr.cell? ⟨g, o + k, none⟩ = some x := (hb.out.cell (block_lt_of_cell hx)).trans hx
        have HX := Lib.hid (hbx.below hb.out)
        have HNX := Lib.hid (ownRows_next l k hkl)
        obtain ⟨ax, cx, rfl, -, -, -, -⟩ := id hbx
        have d1 : decide ((k : Int) < (L : Int)) = true := decide_eq_true (by omega)
        have d1n : decide (k < L) = true := decide_eq_true hlt
        generalize l[k] = y at *
        clear hcell hx hbx
        by_cases h8 : k < 8
        · have d2 : decide ((k : Int) < 8) = true := decide_eq_true (by omega)
          have d2n : decide (k < 8) = true := decide_eq_true h8
          go_wp2_with fail
          refine (cut_any _ y 300 (by decide) (by decide) wr HX.out).mono ?_
          rintro e w2 ⟨v2, rfl, ho2, hb2⟩
          have HB2 := Lib.hid (btr hb.out hb2)
          have HO2 := Lib.hid (hown.out.below hb2)
          have HRC := Lib.hid ((Rec8.of_own ho2).low hb.out.size)
          obtain ⟨a3, n3, c3, rfl⟩ := Rec8.isSlice HRC.out
          have hsz := HB2.out.size
          clear ho2 hb2 hown hb
          go_wp2_with (at_builtin; refine wpList_appRec rfl _ _ rfl w.heap.size _ _ rfl HO2.out _ _ HRC.out _ rfl rfl (by have := ownRows_len (l.take k); omega) hsz ?_; intro v5 w5 ho5 hb5)
          have HB5 := Lib.hid (HB2.out.trans hb5)
          have HO5 : Hid (RecsAt w.heap.size w5 v5 (ownRows (l.take (k + 1)))) := Lib.hid (by rw [HNX.out, if_pos h8]; exact ho5)
          clear ho5 hb5 HB2 HO2 HRC HNX d2 d2n
          go_wp2_with fail
          go_roundw
          case rel => exact ⟨k + 1, by omega, by go_num, HO5, HB5⟩
          case measure => simp [intOf]; omega
        · have d2 : decide ((k : Int) < 8) = false := decide_eq_false (by omega)
          have d2n : decide (k < 8) = false := decide_eq_false h8
          have HO5 : Hid (RecsAt w.heap.size wr u7 (ownRows (l.take (k + 1)))) := Lib.hid (by rw [HNX.out, if_neg h8]; exact hown.out)
          go_wp2_with fail
          go_roundw
          case rel => exact ⟨k + 1, by omega, by go_num, HO5, hb⟩
          case measure => simp [intOf]; omega
    · have e : k = L := by omega
      have d1 : decide ((k : Int) < (L : Int)) = false := decide_eq_false (by omega)
      have d1n : decide (k < L) = false := decide_eq_false hlt
      have hl : l.take k = l := List.take_of_length_le (by rw [e, ← HL.out]; exact Nat.le_refl _)
      rw [hl] at hown
      have HOWN := hown
      clear hl e hown HR hlt
      go_wp2_with fail
      refine (cut_any _ raw 60 (by decide) (by decide) wr (HU.out.below hb.out)).mono ?_
      rintro e w2 ⟨v2, rfl, ho2, hb2⟩
      have HB2 := Lib.hid (btr hb.out hb2)
      have HO2 := Lib.hid (HOWN.out.below hb2)
      obtain ⟨rw2, hrw2⟩ : ∃ x, x = raw.take (60 : Int).toNat := ⟨_, rfl⟩
      rw [← hrw2] at ho2
      have hrl : rw2.length ≤ 60 := by rw [hrw2, List.length_take]; exact Nat.min_le_left _ _
      have HRW := Lib.hid ho2.bytes
      obtain ⟨own, hown⟩ : ∃ x, x = ownRows l := ⟨_, rfl⟩
      have hol : own.length ≤ 8 := by rw [hown]; exact ownRows_len l
      have hom : ∀ x ∈ own, x.length ≤ 300 := fun x hx => by rw [hown] at hx; exact ownRows_mem hx
      have hla : (layAll own).length ≤ 10000 := by have := layAll_small own 300 hom; have h2 : own.length * 310 ≤ 8 * 310 := Nat.mul_le_mul_right _ hol; omega
      rw [← hown] at HO2
      have HOL := Lib.hid hol
      have HOM := Lib.hid hom
      obtain ⟨a2', n2', c2', rfl⟩ := Own8.isSlice ho2
      clear ho2 hb2 hb HOWN hrw2 hown hol hom
      obtain ⟨a7, c7, rfl, -, -, -, -⟩ := id HO2.out.rows
      go_wp2_with fail
      refine (rlay_any _ own w2 HO2.out.rows (fun x hx => by have := HOM.out x hx; omega) (by omega)).mono ?_
      rintro e w3 ⟨v3, rfl, ho3, hb3⟩
      have HB3 := Lib.hid (btr HB2.out hb3)
      have HO3 := Lib.hid (HO2.out.below hb3)
      have HRW3 := Lib.hid (HRW.out.below hb3)
      have HA3 := Lib.hid ho3.bytes
      obtain ⟨A, hA⟩ : ∃ x, x = layAll own := ⟨_, rfl⟩
      rw [← hA] at HA3 hla
      have HA := Lib.hid hA
      obtain ⟨a3, c3, rfl, hm3, hc3, -, -⟩ := id HA3.out
      obtain ⟨AL, hAL⟩ : ∃ x, x = A.length := ⟨_, rfl⟩
      rw [← hAL] at HA3 hm3 hc3 hla ⊢
      have HAL := Lib.hid hAL
      clear ho3 hb3 HB2 HO2 HRW hA hAL
      go_wp2_with fail
      refine (rcut_any _ A w3 HA3.out (by rw [← HAL.out]; omega)).mono ?_
      rintro e w4 ⟨v4, rfl, ho4, hb4⟩
      have hcutA : cutL A = own := by rw [HA.out]; exact cutL_lay' own fun x hx => by have := HOM.out x hx; omega
      rw [hcutA] at ho4 ⊢
      rw [← HA.out, ← HAL.out]
      have HB4 := Lib.hid (btr HB3.out hb4)
      have HO4 := Lib.hid (HO3.out.below hb4)
      have HRW4 := Lib.hid (HRW3.out.below hb4)
      have HA4 := Lib.hid (HA3.out.below hb4)
      have HX4 := Lib.hid ho4
      obtain ⟨a4, c4, rfl, -, -, -, -⟩ := id ho4.rows
      obtain ⟨J, hJ⟩ : ∃ j, j = min cut AL := ⟨_, rfl⟩
      have HJ := Lib.hid hJ
      have hJA : J ≤ A.length := by rw [← HAL.out]; omega
      have hwc : IntKind.i64.wrap (cut : Int) = (cut : Int) := by rw [IntKind.wrap_i64]; omega
      have hJc : J ≤ c3 := by omega
      have HS4 := Lib.hid (SliceOf.firsts HA4.out J hJA)
      clear ho4 hb4 HB3 HO3 HRW3 HA3 hJ hcutA
      go_wp2_with (with_reducible refine wpList_min rfl _ _ _ rfl _ _ _ rfl rfl ?_; intro rr hrr; have hrj : rr = (J : Int) := (by have h1 := hrr.out; have h2 := HJ.out; split at h1 <;> omega); subst hrj; clear hrr)
      refine (rcut_any _ (A.take J) w4 HS4.out (by rw [List.length_take]; have := HAL.out; omega)).mono ?_
      rintro e w5 ⟨v5, rfl, ho5, hb5⟩
      have hcl := cut_le (A.take J)
      have htl : (A.take J).length = J := by rw [List.length_take]; omega
      rw [htl] at hcl
      obtain ⟨q, hq⟩ := cut_prefix A J
      rw [show cutL A = own by rw [HA.out]; exact cutL_lay' own fun x hx => by have := HOM.out x hx; omega] at hq
      obtain ⟨bl, hbl⟩ : ∃ x, x = cutL (A.take J) := ⟨_, rfl⟩
      rw [← hbl] at ho5 hcl hq ⊢
      have hbll : bl.length ≤ own.length := by rw [hq, List.length_take]; exact Nat.min_le_right _ _
      have hbm : ∀ x ∈ bl, x.length ≤ 300 := fun x hx => HOM.out x (List.mem_of_mem_take (hq ▸ hx))
      have hbeg : bl = own.take bl.length := by rw [hq, List.length_take, ← List.take_take]; simp
      obtain ⟨M5, hM5⟩ : ∃ x, x = (layAll bl).length := ⟨_, rfl⟩
      rw [← hM5] at hcl ⊢
      have HM5 := Lib.hid hM5
      have HBL := Lib.hid (And.intro hbll (And.intro hbm hbeg))
      have HB5 := Lib.hid (btr HB4.out hb5)
      have HO5 := Lib.hid (HO4.out.below hb5)
      have HRW5 := Lib.hid (HRW4.out.below hb5)
      have HA5 := Lib.hid (HA4.out.below hb5)
      have HX5 := Lib.hid (HX4.out.below hb5)
      have HY5 := Lib.hid ho5
      obtain ⟨a5, c5, rfl, -, -, -, -⟩ := id ho5.rows
      clear ho5 hb5 HB4 HO4 HRW4 HA4 HX4 HS4 htl hq hbl hbll hbm hbeg hM5 hwc
      go_wp2_with fail
      refine (rfcut_any _ rw2 w5 HRW5.out (by omega)).mono ?_
      rintro e w6 ⟨v6, rfl, ho6, hb6⟩
      obtain ⟨cl, hcl2⟩ : ∃ x, x = cutL rw2 := ⟨_, rfl⟩
      have hcll : cl.length ≤ 60 := by
        have h1 := cut_le rw2
        have h5 : ∀ l : List (List UInt8), l.length ≤ (layAll l).length := fun l => by
          induction l with
          | nil => exact Nat.le_refl _
          | cons x l ih => rw [layAll_cons, List.length_append, List.length_cons]; have := layOne_pos x; omega
        have := h5 (cutL rw2)
        rw [hcl2]
        omega
      have HCUT := Lib.hid (rcut_any _ rw2 w6 (HRW5.out.below hb6) (by omega))
      rw [← hcl2] at ho6 HCUT ⊢
      obtain ⟨M6, hM6⟩ : ∃ x, x = (layAll cl).length := ⟨_, rfl⟩
      rw [← hM6] at HCUT ⊢
      have HB6 := Lib.hid (btr HB5.out hb6)
      have HO6 := Lib.hid (HO5.out.below hb6)
      have HA6 := Lib.hid (HA5.out.below hb6)
      have HX6 := Lib.hid (HX5.out.below hb6)
      have HY6 := Lib.hid (HY5.out.below hb6)
      have HZ6 := Lib.hid ho6
      obtain ⟨a6, c6, rfl, -, -, -, -⟩ := id ho6.rows
      clear ho6 hb6 HB5 HO5 HRW5 HA5 HX5 HY5 hcl2 hM6
      go_wp2_with fail
      refine HCUT.out.mono ?_
      rintro e w7 ⟨v7, rfl, ho7, hb7⟩
      have HB7 := Lib.hid (btr HB6.out hb7)
      have HO7 := Lib.hid (HO6.out.below hb7)
      have HA7 := Lib.hid (HA6.out.below hb7)
      have HX7 := Lib.hid (HX6.out.below hb7)
      have HY7 := Lib.hid (HY6.out.below hb7)
      have HZ7 := Lib.hid (HZ6.out.below hb7)
      have HW7 := Lib.hid ho7
      obtain ⟨a8, c8, rfl, -, -, -, -⟩ := id ho7.rows
      clear ho7 hb7 HB6 HO6 HA6 HX6 HY6 HZ6 HCUT
      go_wp2_with fail
      refine (rflay_any _ own w7 HO7.out.rows (fun x hx => by have := HOM.out x hx; omega) (by rw [← HA.out, ← HAL.out]; omega)).mono ?_
      rintro e w8 ⟨v8, rfl, ho8, hb8⟩
      rw [← HA.out] at ho8
      have HB8 := Lib.hid (btr HB7.out hb8)
      have HO8 := Lib.hid (HO7.out.below hb8)
      have HA8 := Lib.hid (HA7.out.below hb8)
      have HX8 := Lib.hid (HX7.out.below hb8)
      have HY8 := Lib.hid (HY7.out.below hb8)
      have HZ8 := Lib.hid (HZ7.out.below hb8)
      have HW8 := Lib.hid (HW7.out.below hb8)
      have HL8 := Lib.hid ho8.bytes
      clear ho8 hb8 HB7 HO7 HA7 HX7 HY7 HZ7 HW7
      go_wp2_with fail
      refine (same_any _ _ A A w8 HA8.out HL8.out).mono ?_
      rintro e w9 ⟨rfl, nn, hw9⟩
      rw [decide_eq_true rfl]
      have hb9 : Below w8.heap.size w8 w9 := by rw [hw9]; exact bdn (bre w8) nn
      have HB9 := Lib.hid (btr HB8.out hb9)
      have HO9 := Lib.hid (HO8.out.below hb9)
      have HX9 := Lib.hid (HX8.out.below hb9)
      have HY9 := Lib.hid (HY8.out.below hb9)
      have HZ9 := Lib.hid (HZ8.out.below hb9)
      have HW9 := Lib.hid (HW8.out.below hb9)
      clear hw9 hb9 HB8 HO8 HA8 HX8 HY8 HZ8 HW8 HL8
      go_wp2_with fail
      refine (lsame_any _ _ own own w9 HX9.out.rows HO9.out.rows (by have := HOL.out; omega) (by have := HOL.out; omega)).mono ?_
      rintro e w10 ⟨rfl, hb10⟩
      rw [decide_eq_true rfl]
      have HB10 := Lib.hid (btr HB9.out hb10)
      have HO10 := Lib.hid (HO9.out.below hb10)
      have HY10 := Lib.hid (HY9.out.below hb10)
      have HZ10 := Lib.hid (HZ9.out.below hb10)
      have HW10 := Lib.hid (HW9.out.below hb10)
      clear hb10 HB9 HO9 HX9 HY9 HZ9 HW9
      go_wp2_with fail
      refine (begins_any _ _ bl own w10 HY10.out.rows HO10.out.rows (by have := HOL.out; have := HBL.out.1; omega)).mono ?_
      rintro e w11 ⟨rfl, hb11⟩
      rw [decide_eq_true HBL.out.2.2]
      have HB11 := Lib.hid (btr HB10.out hb11)
      have HY11 := Lib.hid (HY10.out.below hb11)
      have HZ11 := Lib.hid (HZ10.out.below hb11)
      have HW11 := Lib.hid (HW10.out.below hb11)
      have d5 : decide ((M5 : Int) ≤ (J : Int)) = true := decide_eq_true (by omega)
      have d5n : decide (M5 ≤ J) = true := decide_eq_true hcl
      clear hb11 HB10 HO10 HY10 HZ10 HW10
      go_wp2_with fail
      refine (rflay_any _ bl w11 HY11.out.rows (fun x hx => by have := HBL.out.2.1 x hx; omega) (by rw [← HM5.out]; have := HAL.out; omega)).mono ?_
      rintro e w12 ⟨v12, rfl, ho12, hb12⟩
      obtain ⟨a12, c12, rfl, -, -, -, -⟩ := id ho12.bytes
      rw [← HM5.out]
      have HB12 := Lib.hid (btr HB11.out hb12)
      have HZ12 := Lib.hid (HZ11.out.below hb12)
      have HW12 := Lib.hid (HW11.out.below hb12)
      clear ho12 hb12 HB11 HY11 HZ11 HW11 d5 d5n
      go_wp2_with fail
      refine (lsame_any _ _ cl cl w12 HZ12.out.rows HW12.out.rows (by omega) (by omega)).mono ?_
      rintro e w13 ⟨rfl, hb13⟩
      rw [decide_eq_true rfl]
      have HB13 := Lib.hid (btr HB12.out hb13)
      clear hb13 HB12 HZ12 HW12
      go_wp2_with fail
      go_ret
      exact ⟨rfl, HB13.out⟩
end Go.Proofs.YtacfkhnajdneeaaDoor
