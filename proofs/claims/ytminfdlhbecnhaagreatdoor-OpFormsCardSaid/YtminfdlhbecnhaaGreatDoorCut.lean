/- Walk: Cut: the first bytes of a text, in memory of its own. -/
import Derived.Test.YtminfdlhbecnhaaGreatDoorChecked
import Derived.Test.YtminfdlhbecnhaaGreatDoorBase
namespace Go.Proofs.YtminfdlhbecnhaaGreatDoor
open Go.RowKit

theorem row8 : RowTy Tryz.prog 26 5 1 1 := RowTy.mk' (z := .int .u8 0) Tryz.underlying26 (by kernel_rfl) rfl (by omega)

theorem take_take_snoc (p : List UInt8) (k m : Nat) (hk : k < p.length) : (p.take (k + 1)).take m = if k < m then (p.take k).take m ++ [p[k]] else (p.take k).take m := by
  rw [List.take_take, List.take_take]
  by_cases h : k < m
  · rw [if_pos h, show min m (k + 1) = k + 1 by omega, show min m k = k by omega, List.take_succ_eq_append_getElem hk]
  · rw [if_neg h, show min m (k + 1) = m by omega, show min m k = m by omega]

set_option maxRecDepth 10000 in
set_option maxHeartbeats 400000 in
theorem cut_any (v : Value) (p : List UInt8) (m : Int) (hm0 : 0 ≤ m) (hm1 : m ≤ 1000000) (w : World) (hv : Bytes w v p) :
    Calls Tryz.prog 5 #[v, .int .i64 m] w fun e w' => ∃ v', e = .returned v' ∧ Own8 5 w.heap.size w' v' (p.take m.toNat) ∧ Below w.heap.size w w' := by
  obtain ⟨m, rfl⟩ := Int.eq_ofNat_of_zero_le hm0
  rw [Int.toNat_natCast]
  obtain ⟨a, c, rfl, hm, hc, _, hrow⟩ := hv
  unfold maxLen at hm
  have HR := Lib.hid hrow
  clear hrow
  go_enter Tryz.func5, Tryz.ntmps5
  go_wp2
  go_loopw [5, 6, 7, 10] (fun out _ _ i wr => ∃ (k : Nat) (l : List UInt8), k ≤ p.length ∧ i = .int .i64 k ∧ Hid (l = (p.take k).take m) ∧ Own8 5 w.heap.size wr out l ∧ Below w.heap.size w wr) (fun _ _ _ i _ => p.length - (intOf i).toNat)
  case atStart => exact ⟨0, [], by omega, rfl, Lib.hid (by simp), Own8.nil _ _ _, Below.refl _ _⟩
  case round =>
    obtain ⟨k, l, hk, rfl, HL, hown, hb⟩ := hrel
    by_cases hlt : k < p.length
    · rcases HR.out with h0 | ⟨g, o, rfl, hcell⟩
      · subst h0; simp at hlt
      · obtain ⟨_, hu, rfl⟩ := hcell k _ (List.getElem?_eq_getElem hlt)
        clear hcell
        have hg : g < w.heap.size := block_lt_of_cell hu
        have hu' : wr.cell? ⟨g, o + k, none⟩ = some (B8 p[k]) := (hb.cell hg).trans hu
        have hg' : g < wr.heap.size := block_lt_of_cell hu'
        clear hu
        have hts := take_take_snoc p k m hlt
        rw [← HL.out] at hts
        by_cases hmk : k < m
        · rw [if_pos hmk] at hts
          have HT := Lib.hid hts
          clear hts
          have hlen : l.length ≤ k := by rw [HL.out]; simp; omega
          generalize p[k] = b at *
          unfold B8 at hu'
          have hB : Below w.heap.size w (wr.alloc (.cells #[.int .u8 (b.toNat : Int)] 5)) := hb.alloc hb.size _
          go_wp2_with (at_builtin; refine wpList_app8 rfl _ _ 26 5 row8 rfl w.heap.size _ l rfl (World.ownsRow.alloc hown _) _ [b] rfl (bytes_one _ b _) (by simp; omega) (by exact hB.size) ?_; intro v' w1 h1 _ h3)
          have hb1 : Below w.heap.size w w1 := hB.trans h3
          clear h3 hown hb hu' hg' hB
          go_wp2
          go_roundw
          case rel => exact ⟨k + 1, _, by omega, by go_num, Lib.hid HT.out.symm, h1, hb1⟩
          case measure => simp [intOf]; omega
        · rw [if_neg hmk] at hts
          have HT := Lib.hid hts
          clear hts
          go_wp2
          go_roundw
          case rel => exact ⟨k + 1, l, by omega, by go_num, Lib.hid HT.out.symm, hown, hb⟩
          case measure => simp [intOf]; omega
    · have e : k = p.length := by omega
      subst e
      have hl := HL.out
      rw [List.take_length] at hl
      subst hl
      go_wp2
      go_ret
      exact ⟨_, rfl, hown, hb⟩
end Go.Proofs.YtminfdlhbecnhaaGreatDoor
