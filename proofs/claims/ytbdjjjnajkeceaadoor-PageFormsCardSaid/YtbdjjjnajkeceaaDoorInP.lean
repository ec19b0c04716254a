/- What comes in: a page. -/
import Derived.Test.YtbdjjjnajkeceaaDoorLaw3
import Derived.Test.YtbdjjjnajkeceaaDoorInAgg
namespace Go.Proofs.YtbdjjjnajkeceaaDoor
open Go.RowKit Go.Deep Go.WideShapes

theorem array5 {α : Type} {cs : Array α} (h : cs.size = 5) : ∃ c0 c1 c2 c3 c4, cs = #[c0, c1, c2, c3, c4] := by
  obtain ⟨l⟩ := cs
  match l, h with
  | [c0, c1, c2, c3, c4], _ => exact ⟨c0, c1, c2, c3, c4, rfl⟩

theorem page_of_reads {H : Type} {enc : TypeId × Value → H} {w : World} {r : Reach} {b0 : Nat} {v : Value} {d : DataW H} {p : List MemPlace}
    (hv : Value.okWide Tryd.prog w r b0 25 v) (h : DataW.Trod enc Tryd.prog w 0 (fun _ => true) true 25 v d p) : ∃ (a : Pg) (vd : Value), v = PgVal a vd ∧ Bytes w vd a.data ∧ a.Ok := by
  obtain ⟨cs, rfl, hsz, hall⟩ := open_aggN Tryd.underlying25 (by kernel_rfl) (by kernel_rfl) hv h
  obtain ⟨c0, c1, c2, c3, c4, rfl⟩ := array5 hsz
  obtain ⟨u0, n0, y0, e0, r0⟩ := hall 0 _ rfl
  obtain ⟨u1, n1, y1, e1, r1⟩ := hall 1 _ rfl
  obtain ⟨u2, n2, y2, e2, r2⟩ := hall 2 _ rfl
  obtain ⟨u3, n3, y3, e3, r3⟩ := hall 3 _ rfl
  obtain ⟨u4, n4, y4, e4, r4⟩ := hall 4 _ rfl
  obtain ⟨k0, h0, -, g0⟩ := DataW.trod_int Tryd.underlying22 r0
  obtain ⟨k1, h1, -, g1⟩ := DataW.trod_int Tryd.underlying22 r1
  obtain ⟨k2, h2, -, g2⟩ := DataW.trod_int Tryd.underlying22 r2
  obtain ⟨k3, h3, -, g3⟩ := DataW.trod_int Tryd.underlying5 r3
  obtain ⟨l, hl⟩ := bytes_of_reads Tryd.underlying23 Tryd.underlying5 (by kernel_rfl) r4
  cases h0
  cases h1
  cases h2
  cases h3
  simp at e0 e1 e2 e3 e4
  subst e0 e1 e2 e3 e4
  obtain ⟨p0, q0⟩ := wf_u32' g0
  obtain ⟨p1, q1⟩ := wf_u32' g1
  obtain ⟨p2, q2⟩ := wf_u32' g2
  obtain ⟨p3, q3⟩ := wf_u8' g3
  obtain ⟨k0, rfl⟩ := Int.eq_ofNat_of_zero_le p0
  obtain ⟨k1, rfl⟩ := Int.eq_ofNat_of_zero_le p1
  obtain ⟨k2, rfl⟩ := Int.eq_ofNat_of_zero_le p2
  obtain ⟨k3, rfl⟩ := Int.eq_ofNat_of_zero_le p3
  exact ⟨⟨k0, k1, k2, k3, l⟩, c4, rfl, hl, ⟨by simpa using (show k0 < 4294967296 by omega), by simpa using (show k1 < 4294967296 by omega), by simpa using (show k2 < 4294967296 by omega), by simpa using (show k3 < 256 by omega)⟩⟩
end Go.Proofs.YtbdjjjnajkeceaaDoor
