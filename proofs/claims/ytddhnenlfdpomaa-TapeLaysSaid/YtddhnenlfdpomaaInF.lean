/- What comes in: a list of fields. -/
import Derived.Test.YtddhnenlfdpomaaFew
namespace Go.Proofs.Ytddhnenlfdpomaa
open Go.RowKit Go.Deep

theorem flds_of_reads {H : Type} {enc : TypeId × Value → H} {w : World} {fuel : Nat} {v : Value} {x : DataW H × List MemPlace} (h : Reads enc Try.prog w fuel 36 [v] x) : ∃ l : List Fld, Flds w v l := by
  refine recs_of_reads (R := fun _ us (f : Fld) => us = f.cells.toList ∧ f.s.size ≤ 9223372036854775807) Try.underlying36 Try.underlying40 (by kernel_rfl) (by kernel_rfl) (by decide) h (fun n us hlen hf => ?_) ⟨0, 0, ⟨#[]⟩, 0, by omega, by omega, by omega⟩
  obtain ⟨u0, y0, e0, r0⟩ := hf 0 _ rfl
  obtain ⟨u1, y1, e1, r1⟩ := hf 1 _ rfl
  obtain ⟨u2, y2, e2, r2⟩ := hf 2 _ rfl
  obtain ⟨u3, y3, e3, r3⟩ := hf 3 _ rfl
  obtain ⟨k0, h0, _, g0⟩ := DataW.trod_int Try.underlying5 r0
  obtain ⟨k1, h1, _, g1⟩ := DataW.trod_int Try.underlying22 r1
  obtain ⟨k2, h2, _, g2⟩ := DataW.trod_string Try.underlying9 r2
  obtain ⟨k3, h3, _, g3⟩ := DataW.trod_int Try.underlying22 r3
  cases h0
  cases h1
  cases h2
  cases h3
  match us, hlen with
  | [a, b, c, d], _ =>
    simp at e0 e1 e2 e3
    subst e0 e1 e2 e3
    obtain ⟨p0, q0⟩ := wf_u8' g0
    obtain ⟨p1, q1⟩ := wf_u64' g1
    obtain ⟨p3, q3⟩ := wf_u64' g3
    obtain ⟨k0, rfl⟩ := Int.eq_ofNat_of_zero_le p0
    obtain ⟨k1, rfl⟩ := Int.eq_ofNat_of_zero_le p1
    obtain ⟨k3, rfl⟩ := Int.eq_ofNat_of_zero_le p3
    exact ⟨⟨k0, k1, k2, k3, by omega, by omega, by omega⟩, rfl, by unfold maxLen at g2; show k2.size ≤ _; omega⟩
end Go.Proofs.Ytddhnenlfdpomaa
