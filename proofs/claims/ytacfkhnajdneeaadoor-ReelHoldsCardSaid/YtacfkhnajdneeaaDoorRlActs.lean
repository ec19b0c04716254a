/- What comes in: a list of acts. -/
import Derived.Test.YtacfkhnajdneeaaDoorInB
import Derived.Test.YtacfkhnajdneeaaDoorRecs
import Derived.Test.YtacfkhnajdneeaaDoorRlHoldsP
namespace Go.Proofs.YtacfkhnajdneeaaDoor
open Go.RowKit Go.Deep

structure RAct where
  dd : Nat
  nn : Nat
  bb : Nat
  keep : List Bool

def RActAt (w : World) (us : List Value) (a : RAct) : Prop := ∃ kv, us = [.int .u8 a.dd, .int .u16 a.nn, .int .u8 a.bb, kv] ∧ Bools w kv a.keep ∧ a.dd < 256 ∧ a.nn < 65536 ∧ a.bb < 256
def RActs (w : World) (v : Value) (l : List RAct) : Prop := Recs 4 RActAt w v l
theorem RActs.below {w w' : World} {v : Value} {l : List RAct} (h : RActs w v l) (hb : Below w.heap.size w w') : RActs w' v l :=
  Recs.mono (by decide) h hb fun us a _ ⟨kv, h1, h2, h3⟩ => ⟨kv, h1, h2.below hb, h3⟩

theorem racts_of_reads {H : Type} {enc : TypeId × Value → H} {w : World} {fuel : Nat} {v : Value} {x : DataW H × List MemPlace} (h : Reads enc Tryd.prog w fuel 53 [v] x) : ∃ l : List RAct, RActs w v l := by
  refine recs_of_reads (R := RActAt) Tryd.underlying53 Tryd.underlying56 (by kernel_rfl) (by kernel_rfl) (by decide) h (fun n us hlen hf => ?_) ⟨0, 0, 0, []⟩
  obtain ⟨u0, y0, e0, r0⟩ := hf 0 _ rfl
  obtain ⟨u1, y1, e1, r1⟩ := hf 1 _ rfl
  obtain ⟨u2, y2, e2, r2⟩ := hf 2 _ rfl
  obtain ⟨u3, y3, e3, r3⟩ := hf 3 _ rfl
  obtain ⟨k0, h0, _, g0⟩ := DataW.trod_int Tryd.underlying5 r0
  obtain ⟨k1, h1, _, g1⟩ := DataW.trod_int Tryd.underlying24 r1
  obtain ⟨k2, h2, _, g2⟩ := DataW.trod_int Tryd.underlying5 r2
  obtain ⟨keep, hk⟩ := bools_of_reads r3
  cases h0
  cases h1
  cases h2
  match us, hlen with
  | [a, b, c, d], _ =>
    simp at e0 e1 e2 e3
    subst e0 e1 e2 e3
    obtain ⟨p0, q0⟩ := wf_u8' g0
    obtain ⟨p1, q1⟩ := wf_u16' g1
    obtain ⟨p2, q2⟩ := wf_u8' g2
    obtain ⟨k0, rfl⟩ := Int.eq_ofNat_of_zero_le p0
    obtain ⟨k1, rfl⟩ := Int.eq_ofNat_of_zero_le p1
    obtain ⟨k2, rfl⟩ := Int.eq_ofNat_of_zero_le p2
    exact ⟨⟨k0, k1, k2, keep⟩, _, rfl, hk, by show k0 < 256; omega, by show k1 < 65536; omega, by show k2 < 256; omega⟩
end Go.Proofs.YtacfkhnajdneeaaDoor
