/- Walk: Join: texts behind one another. -/
import Derived.Test.YtminfdlhbecnhaaGreatDoorChecked
import Derived.Test.YtminfdlhbecnhaaGreatDoorCut
namespace Go.Proofs.YtminfdlhbecnhaaGreatDoor
open Go.RowKit

theorem flat_snoc' (ls : List (List UInt8)) (k : Nat) (h : k < ls.length) : (ls.take (k + 1)).flatten = (ls.take k).flatten ++ ls[k] := by
  rw [List.take_succ_eq_append_getElem h, List.flatten_append]; simp

set_option maxRecDepth 10000 in
set_option maxHeartbeats 400000 in
theorem rjoin_any (v : Value) (ls : List (List UInt8)) (w : World) (hv : Rows8 w v ls) (hbig : ls.flatten.length ≤ 140737488355328) :
    Calls Tryz.prog 17 #[v] w fun e w' => ∃ v', e = .returned v' ∧ Own8 5 w.heap.size w' v' ls.flatten ∧ Below w.heap.size w w' := by
  obtain ⟨a, c, rfl, hm, hc, _, hrow⟩ := hv
  unfold maxLen at hm
  have HR := Lib.hid hrow
  clear hrow
  go_enter Tryz.func17, Tryz.ntmps17
  go_wp2
  go_loopw [3, 5, 8] (fun out _ i wr => ∃ (k : Nat) (l : List UInt8), k ≤ ls.length ∧ i = .int .i64 k ∧ Hid (l = (ls.take k).flatten) ∧ Own8 5 w.heap.size wr out l ∧ Below w.heap.size w wr) (fun _ _ i _ => ls.length - (intOf i).toNat)
  case atStart => exact ⟨0, [], by omega, rfl, Lib.hid (by simp), Own8.nil _ _ _, Below.refl _ _⟩
  case round =>
    obtain ⟨k, l, hk, rfl, HL, hown, hb⟩ := hrel
    by_cases hlt : k < ls.length
    · rcases HR.out with h0 | ⟨g, o, rfl, hcell⟩
      · subst h0; simp at hlt
      · obtain ⟨u, hu, hbu⟩ := hcell k _ (List.getElem?_eq_getElem hlt)
        clear hcell
        have hg : g < w.heap.size := block_lt_of_cell hu
        have hu' : wr.cell? ⟨g, o + k, none⟩ = some u := (hb.cell hg).trans hu
        have hg' : g < wr.heap.size := block_lt_of_cell hu'
        have hbu' : Bytes wr u ls[k] := hbu.below hb
        have hts := flat_snoc' ls k hlt
        rw [← HL.out] at hts
        have HT := Lib.hid hts
        have hlen : l.length + ls[k].length ≤ 140737488355328 := by
          have h1 : (ls.take (k + 1)).flatten.length ≤ ls.flatten.length := by
            conv => rhs; rw [← List.take_append_drop (k + 1) ls, List.flatten_append, List.length_append]
            omega
          rw [hts, List.length_append] at h1
          omega
        clear hts hu hbu
        generalize ls[k] = x at *
        have hsz := hb.size
        go_wp2_with (at_builtin; refine wpList_app8 rfl _ _ 26 5 row8 rfl w.heap.size _ l rfl hown _ x rfl hbu' hlen hsz ?_; intro v' w1 h1 _ h3)
        have hb1 : Below w.heap.size w w1 := hb.trans h3
        clear h3 hown hb hu' hg' hbu' hsz
        go_wp2
        go_roundw
        case rel => exact ⟨k + 1, _, by omega, by go_num, Lib.hid HT.out.symm, h1, hb1⟩
        case measure => simp [intOf]; omega
    · have e : k = ls.length := by omega
      subst e
      have hl := HL.out
      rw [List.take_length] at hl
      subst hl
      go_wp2
      go_ret
      exact ⟨_, rfl, hown, hb⟩
end Go.Proofs.YtminfdlhbecnhaaGreatDoor
