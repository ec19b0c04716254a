/- A region that draws its order, with guards: the one, or the two, that may come up. No program is in sight. -/
import Derived.Test.YtnbncjebmlicgaaOrd
namespace Go.Proofs.Ytnbncjebmlicgaa
open Go.RowKit
variable {P : Program} {ops : Array Oper} {Q : Exit → Act → World → Prop} {md : Region.Mode} {S : World → Prop}
theorem anyZ_oneG {i z : Nat} {oi : Oper} {fuel : Nat} {listed : Array Bool} {a : Act} {w : World} (hcl : Closed md ops listed) (hr : Region.ready md ops listed = [i]) (hi : ops[i]? = some oi) (hg : Region.wanted oi (yielded ops a.tmps) = true)
    (h : Closed md ops (listed.setIfInBounds i true) → ∀ K : Act → World → Prop, (∀ a' w', ((listed.setIfInBounds i true).getD z true = false → S w') → AnyZ P md ops Q S z fuel (listed.setIfInBounds i true) a' w' → K a' w') → oi.wp P a w K Q) :
    AnyZ P md ops Q S z (fuel + 1) listed a w := by
  refine ⟨fun h0 => (by rw [hr] at h0; cases h0), fun j hj => ?_⟩
  rw [hr] at hj
  have hji : j = i := by simpa using hj
  subst hji
  unfold wpOp
  simp only [hi]
  rw [if_pos hg]
  exact .inl (h (hcl.set (by rw [hr]; simp)) _ fun a' w' h1 h2 => ⟨h1, h2⟩)

theorem anyZ_twoG {i j z : Nat} {oi oj : Oper} {fuel : Nat} {listed : Array Bool} {a : Act} {w : World} (hcl : Closed md ops listed) (hr : Region.ready md ops listed = [i, j]) (hi : ops[i]? = some oi) (hgi : Region.wanted oi (yielded ops a.tmps) = true) (hj : ops[j]? = some oj) (hgj : Region.wanted oj (yielded ops a.tmps) = true)
    (h1 : Closed md ops (listed.setIfInBounds i true) → ∀ K : Act → World → Prop, (∀ a' w', ((listed.setIfInBounds i true).getD z true = false → S w') → AnyZ P md ops Q S z fuel (listed.setIfInBounds i true) a' w' → K a' w') → oi.wp P a w K Q)
    (h2 : Closed md ops (listed.setIfInBounds j true) → ∀ K : Act → World → Prop, (∀ a' w', ((listed.setIfInBounds j true).getD z true = false → S w') → AnyZ P md ops Q S z fuel (listed.setIfInBounds j true) a' w' → K a' w') → oj.wp P a w K Q) :
    AnyZ P md ops Q S z (fuel + 1) listed a w := by
  refine ⟨fun h0 => (by rw [hr] at h0; cases h0), fun k hk => ?_⟩
  rw [hr] at hk
  rcases List.mem_cons.1 hk with rfl | hk
  · unfold wpOp
    simp only [hi]
    rw [if_pos hgi]
    exact .inl (h1 (hcl.set (by rw [hr]; simp)) _ fun a' w' h1 h2 => ⟨h1, h2⟩)
  · have hkj : k = j := by simpa using hk
    subst hkj
    unfold wpOp
    simp only [hj]
    rw [if_pos hgj]
    exact .inl (h2 (hcl.set (by rw [hr]; simp)) _ fun a' w' h1 h2 => ⟨h1, h2⟩)
end Go.Proofs.Ytnbncjebmlicgaa
