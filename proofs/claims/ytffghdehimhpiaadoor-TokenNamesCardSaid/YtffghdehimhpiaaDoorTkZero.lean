/- Plain: a text of noughts holds no token. -/
import Derived.Test.YtffghdehimhpiaaDoorTkP
namespace Go.Proofs.YtffghdehimhpiaaDoor

theorem toks_zeros (n : Nat) (hn : 0 < n) : toksOf (List.replicate n (0 : UInt8)) = none := by
  obtain ⟨n, rfl⟩ : ∃ m, n = m + 1 := ⟨n - 1, by omega⟩
  unfold toksOf toksFrom
  rw [List.drop_zero, List.replicate_succ, toks, if_neg (by decide), if_neg (by decide)]
  have h : (tokAt (0 :: List.replicate n (0 : UInt8))).1 = 0 := by
    unfold tokAt
    have hp : partN ((0 :: List.replicate n (0 : UInt8)).getD 0 0).toNat = false := by rw [List.getD_cons_zero]; decide
    rw [hp, if_neg (by decide)]
    cases n with
    | zero => decide
    | succ n =>
      have e2 : (0 :: List.replicate (n + 1) (0 : UInt8)).take 2 = [0, 0] := by simp [List.replicate_succ]
      have e1 : (0 :: List.replicate (n + 1) (0 : UInt8)).take 1 = [0] := by simp
      rw [e2, e1]
      decide
  rw [if_pos h]
end Go.Proofs.YtffghdehimhpiaaDoor
