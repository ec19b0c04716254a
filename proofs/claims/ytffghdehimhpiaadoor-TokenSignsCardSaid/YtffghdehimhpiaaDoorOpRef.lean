/- Walks: the document's Kinds, Parts, has. -/
import Derived.Test.YtffghdehimhpiaaDoorOpWords
import Derived.Deep.QuietTactic
import Derived.BigQuiet
import Derived.Lib.Split
namespace Go.Proofs.YtffghdehimhpiaaDoor
open Go.RowKit

/-- the document's rows: word, blank, what it has -/
def opKinds : List (List UInt8) := List.zipWith (fun w p => w ++ 32 :: p) opWords opParts

theorem kinds_at (j : Nat) (h : j < 14) : opKinds.getD j [] = opWords.getD j [] ++ 32 :: opParts.getD j [] := by
  revert h
  revert j
  decide +kernel

theorem words_clean (j : Nat) (h : j < 14) : ∀ b ∈ opWords.getD j [], b.toNat ≠ 32 := by
  revert h
  revert j
  decide +kernel

theorem mk_eq {s : ByteArray} {l : List UInt8} (h : s.data.toList = l) : Value.string s = strV l := by
  subst h; rfl

def hasB (l : List UInt8) (c : Nat) : Bool := l.any fun b => b.toNat == c

theorem has_step (l : List UInt8) (k c : Nat) (h : k < l.length) (h1 : ∀ j, j < k → ∀ b, l[j]? = some b → b.toNat ≠ c) (b : UInt8) (hb : l[k]? = some b) (hne : b.toNat ≠ c) : ∀ j, j < k + 1 → ∀ b, l[j]? = some b → b.toNat ≠ c := fun j hj x hx => by
  rcases Nat.lt_or_ge j k with h' | h'
  · exact h1 j h' x hx
  · have : j = k := by omega
    subst this
    rw [hb] at hx
    cases hx
    exact hne

end Go.Proofs.YtffghdehimhpiaaDoor
