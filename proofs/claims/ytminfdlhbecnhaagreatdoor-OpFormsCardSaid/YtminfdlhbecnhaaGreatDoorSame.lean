/- Walk: Same: are two texts alike? -/
import Derived.Test.YtminfdlhbecnhaaGreatDoorChecked
import Derived.Test.YtminfdlhbecnhaaGreatDoorBase
import Derived.Deep.QuietTactic
import Derived.BigQuiet
namespace Go.Proofs.YtminfdlhbecnhaaGreatDoor
open Go.RowKit

set_option maxRecDepth 10000 in
set_option maxHeartbeats 400000 in
theorem same_any (v u : Value) (p q : List UInt8) (w : World) (hv : Bytes w v p) (hq : Bytes w u q) :
    Calls Tryz.prog 14 #[v, u] w fun e w' => e = .returned (.bool (decide (p = q))) ∧ ∃ n, w' = w.drewN n := by
  obtain ⟨a, c, rfl, hm, hc, _, hrow⟩ := hv
  obtain ⟨a2, c2, rfl, hm2, hc2, _, hrow2⟩ := hq
  unfold maxLen at hm hm2
  have HR := Lib.hid hrow
  have HR2 := Lib.hid hrow2
  clear hrow hrow2
  by_cases hl : p.length = q.length
  · have hlb : ((p.length : Int) != (q.length : Int)) = false := by simp [hl]
    have HL := Lib.hid hl
    clear hl
    go_enter Tryz.func14, Tryz.ntmps14
    go_wp2
    go_loopw [5, 13] (fun _ i wr => ∃ k n : Nat, k ≤ p.length ∧ i = .int .i64 k ∧ wr = w.drewN n ∧ Hid (p.take k = q.take k)) (fun _ i _ => p.length - (intOf i).toNat)
    case atStart => exact ⟨0, 0, by omega, rfl, rfl, Lib.hid rfl⟩
    case round =>
      obtain ⟨k, n, hk, rfl, rfl, HT⟩ := hrel
      by_cases hlt : k < p.length
      · have hlt2 : k < q.length := by have := HL.out; omega
        rcases HR.out with h0 | ⟨g, o, rfl, hcell⟩
        · subst h0; simp at hlt
        rcases HR2.out with h0 | ⟨g2, o2, rfl, hcell2⟩
        · subst h0; simp at hlt2
        obtain ⟨_, hu, rfl⟩ := hcell k _ (List.getElem?_eq_getElem hlt)
        obtain ⟨_, hu2, rfl⟩ := hcell2 k _ (List.getElem?_eq_getElem hlt2)
        unfold B8 at hu hu2
        clear hcell hcell2
        have hp := List.take_succ_eq_append_getElem hlt
        have hq := List.take_succ_eq_append_getElem hlt2
        by_cases hpq : p[k] = q[k]
        · have hb : ((p[k].toNat : Int) != (q[k].toNat : Int)) = false := by simp [hpq]
          have HT1 : Hid (p.take (k + 1) = q.take (k + 1)) := Lib.hid (by rw [hp, hq, HT.out, hpq])
          clear hpq hp hq HT
          go_wp2_with fail
          go_quiet (fail)
          go_wp2
          go_roundw
          case rel => exact ⟨k + 1, _, by omega, by go_num, rfl, HT1⟩
          case measure => simp [intOf]; omega
        · have hb : ((p[k].toNat : Int) != (q[k].toNat : Int)) = true := by
            simp only [bne_iff_ne, ne_eq, Int.natCast_inj]
            exact fun h => hpq (UInt8.toNat_inj.1 h)
          have hne : p ≠ q := by
            intro h
            subst h
            exact hpq rfl
          have HN := Lib.hid hne
          clear hpq hp hq HT hne
          go_wp2_with fail
          go_quiet (fail)
          go_wp2
          go_ret
          exact ⟨by rw [decide_eq_false HN.out]; rfl, n + nq, by simp⟩
      · have e : k = p.length := by omega
        subst e
        have hpq : p = q := by
          have h := HT.out
          rw [List.take_length, List.take_of_length_le (by have := HL.out; omega)] at h
          exact h
        have HN := Lib.hid hpq
        clear hpq
        go_wp2
        go_ret
        exact ⟨by rw [decide_eq_true HN.out]; rfl, _, rfl⟩
  · have hlb : ((p.length : Int) != (q.length : Int)) = true := by simp; omega
    have hne : decide (p = q) = false := by simp; intro h; subst h; exact hl rfl
    go_enter Tryz.func14, Tryz.ntmps14
    go_wp2
    go_ret
    exact ⟨rfl, 0, rfl⟩
end Go.Proofs.YtminfdlhbecnhaaGreatDoor
