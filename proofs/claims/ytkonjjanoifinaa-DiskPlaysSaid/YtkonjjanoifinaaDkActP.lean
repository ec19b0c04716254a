/- A call on the model, plainly. -/
import Derived.Test.YtkonjjanoifinaaRkDo
import Derived.Test.YtkonjjanoifinaaDkCrash
namespace Go.Proofs.Ytkonjjanoifinaa
open Go.RowKit

def Dk.act (d : Dk) (a : Actn) : Int × Dk :=
  if a.do_ % 7 = 6 then (0, ⟨d.safe, d.wait, d.count, decide (0 ≤ a.n), a.n⟩)
  else if a.do_ % 7 = 3 then (if d.may = true then (0, d.synced) else (8, d))
  else if a.do_ % 7 = 4 then (if a.n < 0 ∨ 32 < a.n ∨ a.bit < 0 ∨ 4096 < a.bit + a.n then (1, d) else if 0 ≤ a.i ∧ a.i < d.safe.length then (0, d.rotted a.i.toNat a.bit.toNat a.mask a.n.toNat) else (6, d))
  else if a.do_ % 7 = 5 then (0, d.crashed a.keep)
  else if a.odd = true then (1, d) else if 0 ≤ a.i ∧ a.i < d.safe.length then (if d.may = true then (0, d.wrote a.i.toNat (fullOf a.p)) else (8, d)) else (6, d)

structure Dk.Sound (d : Dk) (m : Nat) : Prop where
  bound : d.bound = true → 0 ≤ d.left
  left : d.left ≤ 9223372036854775807
  wait : d.wait.length ≤ m
  count : d.count ≤ m

theorem Dk.Sound.mono {d : Dk} {m n : Nat} (h : d.Sound m) (hm : m ≤ n) : d.Sound n := ⟨h.bound, h.left, Nat.le_trans h.wait hm, Nat.le_trans h.count hm⟩

theorem Dk.may_left (d : Dk) (h : d.bound = true → 0 ≤ d.left) (hm : d.may = true) (hb : d.bound = true) : 0 ≤ d.left - 1 := by
  have h0 := h hb
  unfold Dk.may at hm
  rw [hb] at hm
  have : d.left ≠ 0 := fun e => by rw [e] at hm; simp at hm
  omega

theorem Dk.off_left (d : Dk) (hm : ¬ d.may = true) : d.refLeft = 0 := by
  unfold Dk.may at hm
  unfold Dk.refLeft
  cases hb : d.bound with
  | false => rw [hb] at hm; simp at hm
  | true =>
    rw [hb] at hm
    simp at hm
    simp [hm]

theorem Dk.act_sound (d : Dk) (a : Actn) (m : Nat) (h : d.Sound m) (ha : a.Ok) : (d.act a).2.Sound (m + 1) := by
  have h1 := h.mono (Nat.le_succ m)
  have hl := h.left
  unfold Dk.act
  split
  · exact ⟨fun hb => of_decide_eq_true hb, ha.n1, h1.wait, h1.count⟩
  split
  · split
    · rename_i hm
      refine ⟨fun hb => ?_, ?_, Nat.zero_le _, h1.count⟩
      · have hb' : d.bound = true := hb
        show 0 ≤ (if d.bound then d.left - 1 else d.left)
        rw [if_pos hb']
        exact d.may_left h.bound hm hb'
      · show (if d.bound then d.left - 1 else d.left) ≤ _
        split <;> omega
    · exact h1
  split
  · split
    · exact h1
    split
    · exact ⟨h1.bound, h1.left, by show (d.wait.map _).length ≤ _; rw [List.length_map]; exact h1.wait, h1.count⟩
    · exact h1
  split
  · exact ⟨fun hb => (by cases hb), (by show (0 : Int) ≤ _; omega), Nat.zero_le _, Nat.zero_le _⟩
  split
  · exact h1
  split
  · split
    · rename_i hm
      refine ⟨fun hb => ?_, ?_, ?_, Nat.succ_le_succ h.count⟩
      · have hb' : d.bound = true := hb
        show 0 ≤ (if d.bound then d.left - 1 else d.left)
        rw [if_pos hb']
        exact d.may_left h.bound hm hb'
      · show (if d.bound then d.left - 1 else d.left) ≤ _
        split <;> omega
      · show (d.wait ++ [_]).length ≤ _
        rw [List.length_append]; exact Nat.succ_le_succ h.wait
    · exact h1
  · exact h1

theorem Dk.act_count (d : Dk) (a : Actn) : (d.act a).2.count = if a.do_ % 7 = 5 then 0 else if a.do_ % 7 < 3 ∧ (d.act a).1 = 0 then d.count + 1 else d.count := by
  unfold Dk.act
  rcases (by omega : a.do_ % 7 = 0 ∨ a.do_ % 7 = 1 ∨ a.do_ % 7 = 2 ∨ a.do_ % 7 = 3 ∨ a.do_ % 7 = 4 ∨ a.do_ % 7 = 5 ∨ a.do_ % 7 = 6) with h | h | h | h | h | h | h <;> rw [h] <;> simp <;> (repeat' split) <;> simp_all [Dk.wrote, Dk.synced, Dk.rotted, Dk.crashed]
end Go.Proofs.Ytkonjjanoifinaa
