/- What comes in: a crown. -/
import Derived.Test.YtacfkhnajdneeaaDoorCrA
import Derived.Test.YtacfkhnajdneeaaDoorInAgg
namespace Go.Proofs.YtacfkhnajdneeaaDoor
open Go.RowKit Go.Deep Go.WideShapes

theorem array3' {α : Type} {cs : Array α} (h : cs.size = 3) : ∃ c0 c1 c2, cs = #[c0, c1, c2] := by
  obtain ⟨l⟩ := cs
  match l, h with
  | [c0, c1, c2], _ => exact ⟨c0, c1, c2, rfl⟩

set_option maxRecDepth 100000 in
theorem crown_of_reads {H : Type} {enc : TypeId × Value → H} {w : World} {r : Reach} {b0 : Nat} {v : Value} {d : DataW H} {p : List MemPlace}
    (hv : Value.okWide Tryd.prog w r b0 36 v) (h : DataW.Trod enc Tryd.prog w 0 (fun _ => true) true 36 v d p) : ∃ (c : Cr), v = CrVal c ∧ c.Ok := by
  obtain ⟨cs, rfl, hsz, hall⟩ := open_aggN Tryd.underlying36 (by kernel_rfl) (by kernel_rfl) hv h
  obtain ⟨c0, c1, c2, rfl⟩ := array3' hsz
  obtain ⟨u0, n0, y0, e0, r0⟩ := hall 0 _ rfl
  obtain ⟨u1, n1, y1, e1, r1⟩ := hall 1 _ rfl
  obtain ⟨u2, n2, y2, e2, r2⟩ := hall 2 _ rfl
  obtain ⟨k0, h0, -, g0⟩ := DataW.trod_int Tryd.underlying34 r0
  obtain ⟨k1, h1, -, g1⟩ := DataW.trod_int Tryd.underlying5 r1
  obtain ⟨k2, h2, -, g2⟩ := DataW.trod_int Tryd.underlying34 r2
  cases h0
  cases h1
  cases h2
  simp at e0 e1 e2
  subst e0 e1 e2
  obtain ⟨p0, q0⟩ := wf_u32' g0
  obtain ⟨p1, q1⟩ := wf_u8' g1
  obtain ⟨p2, q2⟩ := wf_u32' g2
  obtain ⟨k0, rfl⟩ := Int.eq_ofNat_of_zero_le p0
  obtain ⟨k1, rfl⟩ := Int.eq_ofNat_of_zero_le p1
  obtain ⟨k2, rfl⟩ := Int.eq_ofNat_of_zero_le p2
  exact ⟨⟨k0, k1, k2⟩, rfl, ⟨by simpa using (show k0 < 4294967296 by omega), by simpa using (show k1 < 256 by omega), by simpa using (show k2 < 4294967296 by omega)⟩⟩
end Go.Proofs.YtacfkhnajdneeaaDoor
