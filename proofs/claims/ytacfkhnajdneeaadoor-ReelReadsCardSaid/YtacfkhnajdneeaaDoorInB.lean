/- What comes in: a list of bools. -/
import Derived.Test.YtacfkhnajdneeaaDoorIn
import Derived.Test.YtacfkhnajdneeaaDoorDkCrash
namespace Go.Proofs.YtacfkhnajdneeaaDoor
open Go.RowKit Go.Deep

theorem bools_of_reads {H : Type} {enc : TypeId × Value → H} {w : World} {fuel : Nat} {v : Value} {x : DataW H × List MemPlace} (h : Reads enc Tryd.prog w fuel 54 [v] x) : ∃ l : List Bool, Bools w v l :=
  slice_of_reads (R := fun _ u b => u = .bool b) Tryd.underlying54 (by kernel_rfl) h fun n u y hy => by
    obtain ⟨b, hb, _⟩ := DataW.trod_bool Tryd.underlying4 hy
    cases hb
    exact ⟨b, rfl⟩
end Go.Proofs.YtacfkhnajdneeaaDoor
