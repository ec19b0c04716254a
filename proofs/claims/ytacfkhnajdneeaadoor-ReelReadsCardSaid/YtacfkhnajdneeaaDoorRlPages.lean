/- What comes in: a list of pages, a list of sizes. -/
import Derived.Test.YtacfkhnajdneeaaDoorInB
import Derived.Test.YtacfkhnajdneeaaDoorRecs
import Derived.Test.YtacfkhnajdneeaaDoorRlHoldsP
namespace Go.Proofs.YtacfkhnajdneeaaDoor
open Go.RowKit Go.Deep

def PgCells (w : World) (us : List Value) (p : Pg) : Prop := ∃ vd, us = [.int .u32 p.gen, .int .u32 p.serial, .int .u32 p.number, .int .u8 p.kind, vd] ∧ Bytes w vd p.data ∧ p.Ok
def PgList (w : World) (v : Value) (l : List Pg) : Prop := Recs 5 PgCells w v l
theorem PgList.below {w w' : World} {v : Value} {l : List Pg} (h : PgList w v l) (hb : Below w.heap.size w w') : PgList w' v l :=
  Recs.mono (by decide) h hb fun us a _ ⟨kv, h1, h2, h3⟩ => ⟨kv, h1, h2.below hb, h3⟩

theorem pages_of_reads {H : Type} {enc : TypeId × Value → H} {w : World} {fuel : Nat} {v : Value} {x : DataW H × List MemPlace} (h : Reads enc Tryd.prog w fuel 62 [v] x) : ∃ l : List Pg, PgList w v l := by
  refine recs_of_reads (R := PgCells) Tryd.underlying62 Tryd.underlying66 (by kernel_rfl) (by kernel_rfl) (by decide) h (fun n us hlen hf => ?_) Pg.zero
  obtain ⟨u0, y0, e0, r0⟩ := hf 0 _ rfl
  obtain ⟨u1, y1, e1, r1⟩ := hf 1 _ rfl
  obtain ⟨u2, y2, e2, r2⟩ := hf 2 _ rfl
  obtain ⟨u3, y3, e3, r3⟩ := hf 3 _ rfl
  obtain ⟨u4, y4, e4, r4⟩ := hf 4 _ rfl
  obtain ⟨k0, h0, _, g0⟩ := DataW.trod_int Tryd.underlying34 r0
  obtain ⟨k1, h1, _, g1⟩ := DataW.trod_int Tryd.underlying34 r1
  obtain ⟨k2, h2, _, g2⟩ := DataW.trod_int Tryd.underlying34 r2
  obtain ⟨k3, h3, _, g3⟩ := DataW.trod_int Tryd.underlying5 r3
  obtain ⟨l, hl⟩ := bytes_of_reads Tryd.underlying23 Tryd.underlying5 (by kernel_rfl) r4
  cases h0
  cases h1
  cases h2
  cases h3
  match us, hlen with
  | [a, b, c, d, f], _ =>
    simp at e0 e1 e2 e3 e4
    subst e0 e1 e2 e3 e4
    obtain ⟨p0, q0⟩ := wf_u32' g0
    obtain ⟨p1, q1⟩ := wf_u32' g1
    obtain ⟨p2, q2⟩ := wf_u32' g2
    obtain ⟨p3, q3⟩ := wf_u8' g3
    obtain ⟨k0, rfl⟩ := Int.eq_ofNat_of_zero_le p0
    obtain ⟨k1, rfl⟩ := Int.eq_ofNat_of_zero_le p1
    obtain ⟨k2, rfl⟩ := Int.eq_ofNat_of_zero_le p2
    obtain ⟨k3, rfl⟩ := Int.eq_ofNat_of_zero_le p3
    exact ⟨⟨k0, k1, k2, k3, l⟩, _, rfl, hl, ⟨by show k0 < 4294967296; omega, by show k1 < 4294967296; omega, by show k2 < 4294967296; omega, by show k3 < 256; omega⟩⟩

def Us16 (w : World) (v : Value) (l : List Nat) : Prop := SliceOf (fun _ u (x : Nat) => u = .int .u16 x ∧ x < 65536) w v l
theorem us16_of_reads {H : Type} {enc : TypeId × Value → H} {w : World} {fuel : Nat} {v : Value} {x : DataW H × List MemPlace} (h : Reads enc Tryd.prog w fuel 74 [v] x) : ∃ l : List Nat, Us16 w v l :=
  slice_of_reads (R := fun _ u (x : Nat) => u = .int .u16 x ∧ x < 65536) Tryd.underlying74 (by kernel_rfl) h fun _ u _ hy => by
    obtain ⟨n, e0, _, hw⟩ := DataW.trod_int Tryd.underlying24 hy
    cases e0
    obtain ⟨p0, q0⟩ := wf_u16' hw
    obtain ⟨k0, rfl⟩ := Int.eq_ofNat_of_zero_le p0
    exact ⟨k0, rfl, by omega⟩
end Go.Proofs.YtacfkhnajdneeaaDoor
