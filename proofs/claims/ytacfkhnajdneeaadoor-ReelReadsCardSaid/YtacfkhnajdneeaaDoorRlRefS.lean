/- Walk of the reference: the serial of what is written. -/
import Derived.Test.YtacfkhnajdneeaaDoorRlRefC
namespace Go.Proofs.YtacfkhnajdneeaaDoor
open Go.RowKit

theorem top_more (gen s : Nat) (xs : List (List UInt8)) (k : Nat) (hk : k < xs.length) : topOf gen s (xs.take (k + 1)) = topStep gen (topOf gen s (xs.take k)) xs[k] := by
  rw [List.take_succ_eq_append_getElem hk]
  unfold topOf
  rw [List.foldl_append]
  rfl

set_option maxRecDepth 20000 in
set_option maxHeartbeats 3200000 in
theorem rfserial_any (v : Value) (xs : List (List UInt8)) (gen first : Nat) (w : World) (hv : Rows8 w v xs) (hx : xs.length ≤ 5000) (hf : first < 4294967296) :
    Calls Tryd.prog 40 #[v, .int .u32 gen, .int .u32 first] w fun e w' => e = .returned (.int .u32 ((topOf gen first xs + 1) % 4294967296 : Nat)) ∧ Below w.heap.size w w' := by
  obtain ⟨av, cv, rfl, hm, hc, -, hrow⟩ := id hv
  have HR := Lib.hid hrow
  obtain ⟨L, hL⟩ : ∃ L, L = xs.length := ⟨_, rfl⟩
  rw [← hL] at hm hc hx ⊢
  have HL := Lib.hid hL
  have HF := Lib.hid hf
  clear hv hrow hL hf
  go_enter Tryd.func40, Tryd.ntmps40
  go_wp2_with fail
  go_loopw [7, 15] (fun t i wr => ∃ k : Nat, k ≤ L ∧ i = .int .i64 k ∧ t = .int .u32 (topOf gen first (xs.take k)) ∧ Hid (Below w.heap.size w wr)) (fun _ i _ => L - (intOf i).toNat)
  case atStart => exact ⟨0, by omega, rfl, rfl, Lib.hid (bre w)⟩
  case round =>
    obtain ⟨k, hk, rfl, rfl, hb⟩ := hrel
    by_cases hlt : k < L
    · have hkl : k < xs.length := by rw [← HL.out]; exact hlt
      rcases HR.out with h0 | ⟨gb, ob, rfl, hcell⟩
      · rw [h0] at hkl; simp at hkl
      obtain ⟨u, hu, hbu⟩ := hcell k _ (List.getElem?_eq_getElem hkl)
      have hu' := (hb.out.cell (p := ⟨gb, ob + k, none⟩) (block_lt_of_cell hu)).trans hu
      have HU := Lib.hid (hbu.below hb.out)
      obtain ⟨au, cu, rfl, -, -, -, -⟩ := id hbu
      have hts := top_more gen first xs k hkl
      have hq := top_lt gen (xs.take k) first HF.out
      obtain ⟨t0, ht0⟩ : ∃ t, t = topOf gen first (xs.take k) := ⟨_, rfl⟩
      rw [← ht0] at hts hq ⊢
      have HTS := Lib.hid hts
      have d1 : decide ((k : Int) < (L : Int)) = true := decide_eq_true (by omega)
      have d1n : decide (k < L) = true := decide_eq_true hlt
      generalize xs[k] = b at *
      clear hcell hu hbu hkl hts ht0
      go_wp2_with fail
      refine (rparse_any _ b wr HU.out).mono ?_
      rintro e w4 ⟨v4, rfl, ho4, hb4⟩
      have hpg := parse_good b
      obtain ⟨p, hp⟩ : ∃ p, p = (parseOf b).2 := ⟨_, rfl⟩
      obtain ⟨E, hE⟩ : ∃ E, E = (parseOf b).1 := ⟨_, rfl⟩
      rw [← hp] at ho4 hpg
      have HP := Lib.hid hp
      have HE := Lib.hid hE
      rw [← hp, ← hE]
      have HB4 := Lib.hid (btr hb.out hb4)
      have hser := hpg.serial
      obtain ⟨a4, c4, rfl, -, -, -, -⟩ := id ho4.bytes
      unfold PgVal
      obtain ⟨L4, hL4⟩ : ∃ L, L = p.data.length := ⟨_, rfl⟩
      rw [← hL4]
      clear hp hE ho4 hb4 hb hpg hL4 HU hu'
      go_upto_region 6 with fail
      have hb5 := bal (bre w4) (.cells #[.int .u32 p.gen, .int .u32 p.serial, .int .u32 p.number, .int .u8 p.kind, .slice a4 L4 c4] 66)
      have hq5 := heap_alloc_new w4 (.cells #[.int .u32 p.gen, .int .u32 p.serial, .int .u32 p.number, .int .u8 p.kind, .slice a4 L4 c4] 66)
      generalize w4.alloc (.cells #[.int .u32 p.gen, .int .u32 p.serial, .int .u32 p.number, .int .u8 p.kind, .slice a4 L4 c4] 66) = w5 at *
      obtain ⟨n5, hn5⟩ : ∃ n, n = w4.heap.size := ⟨_, rfl⟩
      rw [← hn5] at hq5 ⊢
      have HB5 := Lib.hid (btr HB4.out hb5)
      have y0 := cell_of_row w5 n5 0 _ _ _ hq5
      have y1 := cell_of_row w5 n5 1 _ _ _ hq5
      clear hb5 hq5 hn5 HB4
      obtain ⟨g1, g2, g3⟩ := eqB p.gen gen
      by_cases hE : E = 0
      · have e1 : (E == 0) = true := by rw [hE]; rfl
        have e2 : decide (E = 0) = true := decide_eq_true hE
        by_cases hG : p.gen = gen
        · rw [decide_eq_true hG] at g1 g2 g3
          have hmx : topOf gen first (xs.take (k + 1)) = max t0 p.serial := by
            rw [HTS.out, topStep, if_pos ⟨by rw [← HE.out]; exact hE, by rw [← HP.out]; exact hG⟩, ← HP.out]
          by_cases hgt : t0 < p.serial
          · have d2 : decide ((t0 : Int) < (p.serial : Int)) = true := decide_eq_true (by omega)
            have d2n : decide (t0 < p.serial) = true := decide_eq_true hgt
            have HT : Hid (topOf gen first (xs.take (k + 1)) = p.serial) := Lib.hid (by rw [hmx]; omega)
            clear hE hG hmx hgt
            go_wp2_with fail
            go_roundw
            case rel => exact ⟨k + 1, by omega, by go_num, by rw [HT.out], HB5⟩
            case measure => simp [intOf]; omega
          · have d2 : decide ((t0 : Int) < (p.serial : Int)) = false := decide_eq_false (by omega)
            have d2n : decide (t0 < p.serial) = false := decide_eq_false hgt
            have HT : Hid (topOf gen first (xs.take (k + 1)) = t0) := Lib.hid (by rw [hmx]; omega)
            clear hE hG hmx hgt
            go_wp2_with fail
            go_roundw
            case rel => exact ⟨k + 1, by omega, by go_num, by rw [HT.out], HB5⟩
            case measure => simp [intOf]; omega
        · rw [decide_eq_false hG] at g1 g2 g3
          have HT : Hid (topOf gen first (xs.take (k + 1)) = t0) := Lib.hid (by
            rw [HTS.out, topStep, if_neg (fun h => hG (by rw [HP.out]; exact h.2))])
          clear hE hG
          go_wp2_with fail
          go_roundw
          case rel => exact ⟨k + 1, by omega, by go_num, by rw [HT.out], HB5⟩
          case measure => simp [intOf]; omega
      · have e1 : (E == 0) = false := beq_false_of_ne hE
        have e2 : decide (E = 0) = false := decide_eq_false hE
        have HT : Hid (topOf gen first (xs.take (k + 1)) = t0) := Lib.hid (by
          rw [HTS.out, topStep, if_neg (fun h => hE (by rw [HE.out]; exact h.1))])
        clear hE
        go_wp2_with fail
        go_roundw
        case rel => exact ⟨k + 1, by omega, by go_num, by rw [HT.out], HB5⟩
        case measure => simp [intOf]; omega
    · have e : k = L := by omega
      have hl : xs.take k = xs := List.take_of_length_le (by rw [e, ← HL.out]; exact Nat.le_refl _)
      rw [hl]
      have hwr := wrap32 (topOf gen first xs)
      have d1 : decide ((k : Int) < (L : Int)) = false := decide_eq_false (by omega)
      have d1n : decide (k < L) = false := decide_eq_false hlt
      obtain ⟨T, hT⟩ : ∃ T, T = topOf gen first xs := ⟨_, rfl⟩
      rw [← hT] at hwr ⊢
      have HT := Lib.hid hT
      obtain ⟨T2, hT2⟩ : ∃ t, t = (T + 1) % 4294967296 := ⟨_, rfl⟩
      rw [← hT2] at hwr
      have HT2 := Lib.hid hT2
      clear hT hT2 hl e
      go_wp2_with fail
      go_ret
      exact ⟨by rw [← HT.out, ← HT2.out]; rfl, hb.out⟩
end Go.Proofs.YtacfkhnajdneeaaDoor
