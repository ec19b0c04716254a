/- Ranging over a map of unsigned keys, whatever the order. -/
import Derived.Test.YtnbncjebmlicgaaArPut
import Derived.Maps.RangeWalk
namespace Go.Proofs.Ytnbncjebmlicgaa
open Go.RowKit Go.Maps

/-- r is an iterator over the map at b; left: which keys are still to come -/
def RngAt (P : Program) (k : TypeId) (w : World) (b r : Nat) (vl : List (Nat × Value)) (left : Nat → Bool) : Prop :=
  ∃ L cnt, w.ranges P k rawE b r vl.length (dU vl) L cnt ∧ (∀ p ∈ vl, L (kU p.1) = left p.1) ∧ AscA vl

section
variable {P : Program} {k t e : TypeId} {w w' : World} {b r : Nat} {vl : List (Nat × Value)} {left : Nat → Bool}

theorem MapU.range (h : MapU P k w b vl) (hk : P.underlying k = some (.int .u64)) (ht : P.underlying t = some (.map k e)) :
    ∃ w', (Instr.range t (.map (some b))).run P w = .ok (.pointer (some ⟨w.heap.size, 0, none⟩)) w' ∧ RngAt P k w' b w.heap.size vl (fun _ => true) ∧ Below w.heap.size w w' ∧ w'.heap.size = w.heap.size + 1 := by
  obtain ⟨w', hrun, h1, h2, h3⟩ := h.1.range (int_keyed hk) ht
  refine ⟨w', hrun, ⟨_, _, h1, fun p hp => ?_, h.2⟩, ⟨h2.os, h2.tape, h2.output, h2.size, fun i hi => h2.block i hi (by simp)⟩, h3⟩
  rw [has_dU, getA_of_mem h.2 hp]
  rfl

theorem RngAt.map (h : RngAt P k w b r vl left) : MapU P k w b vl := by
  obtain ⟨L, cnt, h1, -, h3⟩ := h
  exact ⟨h1.owns, h3⟩
theorem RngAt.lt (h : RngAt P k w b r vl left) : r < w.heap.size := by
  obtain ⟨L, cnt, h1, -⟩ := h
  exact h1.lt
theorem RngAt.iter (h : RngAt P k w b r vl left) : ∃ m s q c, w.heap[r]? = some (.mapIter m s q c) := by
  obtain ⟨L, cnt, ⟨es, clock, since, seen, c0, -, -, -, -, hr, -⟩, -⟩ := h
  exact ⟨_, _, _, _, hr⟩
theorem RngAt.only {S : Nat → Prop} (h : RngAt P k w b r vl left) (ho : Only w w' S) (hb : ¬ S b) (hr : ¬ S r) : RngAt P k w' b r vl left ∧ w'.rangeLeft b r = w.rangeLeft b r := by
  obtain ⟨L, cnt, h1, h2, h3⟩ := h
  have hbl := h1.owns.lt
  have hrl := h1.lt
  have e0 := h1.left_eq
  obtain ⟨es, clock, since, seen, c0, g1, g2, g3, g4, g5, g6⟩ := h1
  have h4 : w'.ranges P k rawE b r vl.length (dU vl) L cnt := ⟨es, clock, since, seen, c0, (ho.block b hbl hb).trans g1, g2, g3, g4, (ho.block r hrl hr).trans g5, g6⟩
  exact ⟨⟨L, cnt, h4, h2, h3⟩, h4.left_eq.trans e0.symm⟩

/-- the step -/
theorem RngAt.next (h : RngAt P k w b r vl left) (hk : P.underlying k = some (.int .u64)) (ty : TypeId) :
    ((∀ p ∈ vl, left p.1 = false) ∧ (Instr.next (.pointer (some ⟨r, 0, none⟩)) false ty).run P w = .ok (.tuple #[.bool false]) w) ∨
    ∃ p w', p ∈ vl ∧ left p.1 = true ∧ (Instr.next (.pointer (some ⟨r, 0, none⟩)) false ty).run P w = .ok (.tuple #[.bool true, .int .u64 p.1, p.2]) w' ∧
      RngAt P k w' b r vl (fun x => left x && !(x == p.1)) ∧ w'.rangeLeft b r < w.rangeLeft b r ∧ Only w w' (fun q => q = r) ∧ w'.heap.size = w.heap.size ∧
      (Instr.entry (.pointer (some ⟨r, 0, none⟩))).run P w' = .ok (.tuple #[.int .u64 p.1, p.2]) w' := by
  obtain ⟨L, cnt, h1, h2, h3⟩ := h
  have e0 := h1.left_eq
  rcases h1.next (int_keyed hk) ty with ⟨-, hl, hrun⟩ | ⟨key, v, kl, y, w', cnt', hkey, hl, hv, hat, hrun, hr', hlt, hg, hs, hen⟩
  · exact .inl ⟨fun p hp => by rw [← h2 p hp]; exact hl _, hrun⟩
  · obtain ⟨x, rfl, rfl, hwf⟩ := keyOf_int_inv hk hkey
    have hx : 0 ≤ x ∧ x < 18446744073709551616 := by
      simp [Lit.wf, IntKind.min, IntKind.max, IntKind.signed, IntKind.bits] at hwf
      omega
    obtain ⟨n, rfl⟩ := Int.eq_ofNat_of_zero_le hx.1
    have hy : y = (.held v, []) := by cases hv; rfl
    subst hy
    have hget : getA vl n = some v := by
      have h5 := fun z => (atKey_dU vl n z).symm.trans (hat (.held z))
      cases hg : getA vl n with
      | none =>
        rw [hg] at h5
        have h6 : (Value.bool true) = v := by have := h5 (.bool true); cases this; rfl
        have h7 : (Value.bool false) = v := by have := h5 (.bool false); cases this; rfl
        rw [← h6] at h7
        cases h7
      | some u =>
        rw [hg] at h5
        have := h5 (.bool true)
        cases this
        rfl
    have hmem := getA_mem hget
    refine .inr ⟨(n, v), w', hmem, by rw [← h2 _ hmem]; exact hl, hrun, ⟨_, _, hr', fun p hp => ?_, h3⟩, by rw [e0, hr'.left_eq]; exact hlt, (Only.of_grown hg).mono fun i _ e => (by cases e; rfl), hs, hen⟩
    show (L (kU p.1) && !(kU p.1).sameKey (kU n)) = _
    rw [h2 p hp, kU_same]
end
end Go.Proofs.Ytnbncjebmlicgaa
