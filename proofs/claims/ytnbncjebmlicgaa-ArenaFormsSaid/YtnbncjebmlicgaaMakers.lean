/- A region that draws its order: operations that make memory, in whatever order. No program is in sight. -/
import Derived.Test.YtnbncjebmlicgaaPreA
namespace Go.Proofs.Ytnbncjebmlicgaa
open Go.RowKit

section
variable {P : Program} {ops : Array Oper} {Q : Exit → Act → World → Prop} {md : Region.Mode} {S : World → Prop} {z : Nat}

theorem anyZ_all {fuel : Nat} {listed : Array Bool} {a : Act} {w : World} (l : List Nat) (hr : Region.ready md ops listed = l) (hne : l ≠ [])
    (h : ∀ i ∈ l, wpOp P ops Q i (fun a' w' => ((listed.setIfInBounds i true).getD z true = false → S w') ∧ AnyZ P md ops Q S z fuel (listed.setIfInBounds i true) a' w') a w) : AnyZ P md ops Q S z (fuel + 1) listed a w := by
  subst hr
  exact ⟨fun h0 => absurd h0 hne, h⟩

theorem wpOp_plain {i : Nat} {oi : Oper} {a : Act} {w : World} {K : Act → World → Prop} (hi : ops[i]? = some oi) (hg : oi.guard = none) (h : oi.wp P a w K Q) : wpOp P ops Q i K a w := by
  unfold wpOp
  simp only [hi]
  rw [if_pos (by simp [Region.wanted, hg])]
  exact .inl h

theorem anyZ_only {fuel i : Nat} {oi : Oper} {listed : Array Bool} {a : Act} {w : World} (hr : Region.ready md ops listed = [i]) (hi : ops[i]? = some oi) (hg : oi.guard = none)
    (h : oi.wp P a w (fun a' w' => ((listed.setIfInBounds i true).getD z true = false → S w') ∧ AnyZ P md ops Q S z fuel (listed.setIfInBounds i true) a' w') Q) : AnyZ P md ops Q S z (fuel + 1) listed a w :=
  anyZ_all [i] hr (by simp) (fun j hj => by
    obtain rfl : j = i := by simpa using hj
    exact wpOp_plain hi hg h)

/-- the rest of a region under a name: T; what is ready at a list; what an operation asks -/
theorem anyZ_name {fuel : Nat} {listed : Array Bool} {a : Act} {w : World}
    (k : ∀ (T : Nat → Array Bool → Act → World → Prop) (Wp : Nat → (Act → World → Prop) → Act → World → Prop) (R : Array Bool → List Nat),
      (∀ fuel listed a w (l : List Nat), R listed = l → l ≠ [] → (∀ i ∈ l, Wp i (fun a' w' => ((listed.setIfInBounds i true).getD z true = false → S w') ∧ T fuel (listed.setIfInBounds i true) a' w') a w) → T (fuel + 1) listed a w) →
      (∀ listed, R listed = Region.ready md ops listed) →
      (∀ i oi a w K, ops[i]? = some oi → oi.guard = none → oi.wp P a w K Q → Wp i K a w) →
      (∀ fuel listed a w, AnyZ P md ops Q S z fuel listed a w → T fuel listed a w) →
      T fuel listed a w) : AnyZ P md ops Q S z fuel listed a w :=
  k (AnyZ P md ops Q S z) (wpOp P ops Q) (Region.ready md ops) (fun _ _ _ _ l h1 h2 h3 => anyZ_all l h1 h2 h3) (fun _ => rfl) (fun _ _ _ _ _ h1 h2 h3 => wpOp_plain h1 h2 h3) fun _ _ _ _ h => h

theorem anyZ_cast {fuel : Nat} {listed listed' : Array Bool} {a : Act} {w : World} (e : listed = listed') (h : AnyZ P md ops Q S z fuel listed' a w) : AnyZ P md ops Q S z fuel listed a w := e ▸ h
end

theorem put_swap (a : Act) (i j : Nat) (u v : Value) (h : i ≠ j) : (a.put (some i) u).put (some j) v = (a.put (some j) v).put (some i) u := by
  unfold Act.put
  simp only
  congr 1
  exact Array.setIfInBounds_comm _ _ h

theorem eval_put (a : Act) (i j : Nat) (v : Value) (h : i ≠ j) : (a.put (some i) v).eval (.tmp j) = a.eval (.tmp j) := by
  unfold Act.put Act.eval
  simp only [Array.getD_eq_getD_getElem?]
  rw [Array.getElem?_setIfInBounds_ne h]
end Go.Proofs.Ytnbncjebmlicgaa
