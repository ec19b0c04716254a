/- What comes in: an operation. -/
import Derived.Test.YtminfdlhbecnhaaGreatDoorChecked
import Derived.Test.YtminfdlhbecnhaaGreatDoorInAgg
namespace Go.Proofs.YtminfdlhbecnhaaGreatDoor
open Go.RowKit Go.Deep Go.WideShapes

theorem array4' {α : Type} {cs : Array α} (h : cs.size = 4) : ∃ c0 c1 c2 c3, cs = #[c0, c1, c2, c3] := by
  obtain ⟨l⟩ := cs
  match l, h with
  | [c0, c1, c2, c3], _ => exact ⟨c0, c1, c2, c3, rfl⟩

set_option maxRecDepth 100000 in
theorem op_of_reads {H : Type} {enc : TypeId × Value → H} {w : World} {r : Reach} {b0 : Nat} {v : Value} {d : DataW H} {p : List MemPlace}
    (hv : Value.okWide Tryz.prog w r b0 25 v) (h : DataW.Trod enc Tryz.prog w 0 (fun _ => true) true 25 v d p) :
    ∃ (k a b : Nat) (nm : ByteArray), v = .agg #[.int .u8 k, .int .u64 a, .int .u64 b, .string nm] ∧ k < 256 ∧ a < 18446744073709551616 ∧ b < 18446744073709551616 ∧ nm.size ≤ 9223372036854775807 := by
  obtain ⟨cs, rfl, hsz, hall⟩ := open_aggN Tryz.underlying25 (by kernel_rfl) (by kernel_rfl) hv h
  obtain ⟨c0, c1, c2, c3, rfl⟩ := array4' hsz
  obtain ⟨u0, n0, y0, e0, r0⟩ := hall 0 _ rfl
  obtain ⟨u1, n1, y1, e1, r1⟩ := hall 1 _ rfl
  obtain ⟨u2, n2, y2, e2, r2⟩ := hall 2 _ rfl
  obtain ⟨u3, n3, y3, e3, r3⟩ := hall 3 _ rfl
  obtain ⟨k0, h0, -, g0⟩ := DataW.trod_int Tryz.underlying5 r0
  obtain ⟨k1, h1, -, g1⟩ := DataW.trod_int Tryz.underlying23 r1
  obtain ⟨k2, h2, -, g2⟩ := DataW.trod_int Tryz.underlying23 r2
  obtain ⟨k3, h3, -, g3⟩ := DataW.trod_string Tryz.underlying9 r3
  cases h0
  cases h1
  cases h2
  cases h3
  simp at e0 e1 e2 e3
  subst e0 e1 e2 e3
  obtain ⟨p0, q0⟩ := wf_u8' g0
  obtain ⟨p1, q1⟩ := wf_u64' g1
  obtain ⟨p2, q2⟩ := wf_u64' g2
  obtain ⟨k0, rfl⟩ := Int.eq_ofNat_of_zero_le p0
  obtain ⟨k1, rfl⟩ := Int.eq_ofNat_of_zero_le p1
  obtain ⟨k2, rfl⟩ := Int.eq_ofNat_of_zero_le p2
  exact ⟨k0, k1, k2, k3, rfl, by omega, by omega, by omega, by unfold maxLen at g3; omega⟩
end Go.Proofs.YtminfdlhbecnhaaGreatDoor
