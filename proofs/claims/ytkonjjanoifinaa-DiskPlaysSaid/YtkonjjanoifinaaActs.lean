/- What comes in: a list of calls. -/
import Derived.Test.YtkonjjanoifinaaRkDo
import Derived.Test.YtkonjjanoifinaaInB
import Derived.Test.YtkonjjanoifinaaRecs
namespace Go.Proofs.Ytkonjjanoifinaa
open Go.RowKit Go.Deep

def Acts (w : World) (v : Value) (l : List Actn) : Prop := Recs 8 (fun w us (a : Actn) => ActAt w (.agg us.toArray) a ∧ a.Ok) w v l

theorem wf_i64x {n : Int} (h : (Lit.int .i64 n).wf = true) : -9223372036854775808 ≤ n ∧ n ≤ 9223372036854775807 := by
  simp [Lit.wf, IntKind.min, IntKind.max, IntKind.signed, IntKind.bits] at h
  omega

theorem acts_of_reads {H : Type} {enc : TypeId × Value → H} {w : World} {fuel : Nat} {v : Value} {x : DataW H × List MemPlace} (h : Reads enc Try.prog w fuel 48 [v] x) : ∃ l : List Actn, Acts w v l := by
  refine recs_of_reads (R := fun w us (a : Actn) => ActAt w (.agg us.toArray) a ∧ a.Ok) Try.underlying48 Try.underlying52 (by kernel_rfl) (by kernel_rfl) (by decide) h (fun n us hlen hf => ?_) ⟨0, 0, [], false, 0, 0, 0, []⟩
  obtain ⟨u0, y0, e0, r0⟩ := hf 0 _ rfl
  obtain ⟨u1, y1, e1, r1⟩ := hf 1 _ rfl
  obtain ⟨u2, y2, e2, r2⟩ := hf 2 _ rfl
  obtain ⟨u3, y3, e3, r3⟩ := hf 3 _ rfl
  obtain ⟨u4, y4, e4, r4⟩ := hf 4 _ rfl
  obtain ⟨u5, y5, e5, r5⟩ := hf 5 _ rfl
  obtain ⟨u6, y6, e6, r6⟩ := hf 6 _ rfl
  obtain ⟨u7, y7, e7, r7⟩ := hf 7 _ rfl
  obtain ⟨k0, h0, _, g0⟩ := DataW.trod_int Try.underlying5 r0
  obtain ⟨k1, h1, _, g1⟩ := DataW.trod_int Try.underlying3 r1
  obtain ⟨p, hp⟩ := bytes_of_reads Try.underlying22 Try.underlying5 (by kernel_rfl) r2
  obtain ⟨odd, h3, _⟩ := DataW.trod_bool Try.underlying4 r3
  obtain ⟨k4, h4, _, g4⟩ := DataW.trod_int Try.underlying3 r4
  obtain ⟨k5, h5, _, g5⟩ := DataW.trod_int Try.underlying3 r5
  obtain ⟨k6, h6, _, g6⟩ := DataW.trod_int Try.underlying46 r6
  obtain ⟨keep, hk⟩ := bools_of_reads r7
  cases h0
  cases h1
  cases h3
  cases h4
  cases h5
  cases h6
  match us, hlen with
  | [a, b, c, d, e, f, g, h], _ =>
    simp at e0 e1 e2 e3 e4 e5 e6 e7
    subst e0 e1 e2 e3 e4 e5 e6 e7
    obtain ⟨p0, q0⟩ := wf_u8' g0
    obtain ⟨p1, q1⟩ := wf_i64x g1
    obtain ⟨p4, q4⟩ := wf_i64x g4
    obtain ⟨p5, q5⟩ := wf_i64x g5
    obtain ⟨p6, q6⟩ := wf_u32' g6
    obtain ⟨k0, rfl⟩ := Int.eq_ofNat_of_zero_le p0
    obtain ⟨k6, rfl⟩ := Int.eq_ofNat_of_zero_le p6
    exact ⟨⟨k0, k1, p, odd, k4, k5, k6, keep⟩, ⟨_, _, rfl, hp, hk⟩, ⟨by show k0 < 256; omega, by show k6 < 4294967296; omega, p1, q1, p4, q4, p5, q5⟩⟩
end Go.Proofs.Ytkonjjanoifinaa
