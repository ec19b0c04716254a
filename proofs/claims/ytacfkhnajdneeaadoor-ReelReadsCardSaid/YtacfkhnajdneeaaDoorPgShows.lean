/- What the reference's Parse needs beyond the page's own texts (crown's own copy of three lemmas of the page's). -/
import Derived.Test.YtacfkhnajdneeaaDoorRPBytes
import Derived.Test.YtacfkhnajdneeaaDoorCrA
import Derived.RegionTactic
import Derived.BigRegion
namespace Go.Proofs.YtacfkhnajdneeaaDoor
open Go.RowKit

theorem noughts_zero (n : Nat) : noughts (List.replicate n 0) := fun _ hb => List.eq_of_mem_replicate hb

theorem anyZ_onlyK {P : Program} {ops : Array Oper} {Q : Exit → Act → World → Prop} {md : Region.Mode} {S : World → Prop} {z : Nat} {fuel i : Nat} {oi : Oper} {listed : Array Bool} {a : Act} {w : World} (hr : Region.ready md ops listed = [i]) (hi : ops[i]? = some oi) (hg : oi.guard = none)
    (h : ∀ K : Act → World → Prop, (∀ a' w', ((listed.setIfInBounds i true).getD z true = false → S w') → AnyZ P md ops Q S z fuel (listed.setIfInBounds i true) a' w' → K a' w') → oi.wp P a w K Q) : AnyZ P md ops Q S z (fuel + 1) listed a w :=
  anyZ_only hr hi hg (h _ fun _ _ h1 h2 => ⟨h1, h2⟩)

/-- bytes of one's own, kept -/
def Mine (B : Nat) (w : World) (v : Value) (l : List UInt8) : Prop := Own8 5 B w v l
theorem Mine.below {B : Nat} {w w' : World} {v : Value} {l : List UInt8} (h : Mine B w v l) (hb : Below w.heap.size w w') : Mine B w' v l := Own8.kept h (Nat.le_refl _) hb
end Go.Proofs.YtacfkhnajdneeaaDoor
