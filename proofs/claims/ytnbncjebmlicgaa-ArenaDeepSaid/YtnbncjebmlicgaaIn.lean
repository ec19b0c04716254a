/- What comes in: a reading opened as lists. No program is in sight. -/
import Derived.Test.YtnbncjebmlicgaaBase
import Derived.Deep.Slices
import Derived.ProofKit
namespace Go.Proofs.Ytnbncjebmlicgaa
open Go.RowKit Go.Deep

section
variable {H : Type} {enc : TypeId × Value → H} {P : Program} {w : World}

/-- what a law's arguments are read under -/
abbrev Reads (enc : TypeId × Value → H) (P : Program) (w : World) (fuel : Nat) (t : TypeId) (cs : List Value) (x : DataW H × List MemPlace) : Prop :=
  DataW.trod enc P w 0 (fun _ => true) true fuel t cs = some x

theorem byte_of_reads {fuel : Nat} {e : TypeId} {u : Value} {y : DataW H × List MemPlace} (he : P.underlying e = some (.int .u8)) (h : Reads enc P w fuel e [u] y) : ∃ b : UInt8, u = B8 b := by
  obtain ⟨n, e0, _, hw⟩ := DataW.trod_int he h
  cases e0
  obtain ⟨h0, h1⟩ := wf_u8' hw
  obtain ⟨m, rfl⟩ := Int.eq_ofNat_of_zero_le h0
  refine ⟨UInt8.ofNat m, ?_⟩
  unfold B8
  rw [UInt8.toNat_ofNat_of_lt' (show m < UInt8.size by simp [UInt8.size]; omega)]

/-- a slice of one-cell elements -/
theorem slice_of_reads {α : Type} [Inhabited α] {R : World → Value → α → Prop} {t e : TypeId} {fuel : Nat} {v : Value} {x : DataW H × List MemPlace} (ht : P.underlying t = some (.slice e)) (hc : P.cellsOf e = 1)
    (h : Reads enc P w fuel t [v] x) (hel : ∀ (n : Nat) (u : Value) (y : DataW H × List MemPlace), Reads enc P w n e [u] y → ∃ b : α, R w u b) : ∃ l : List α, SliceOf R w v l := by
  rcases open_slice1 ht hc h with ⟨h0, _⟩ | ⟨a, len, cap, m, n, V, D, Pl, h0, _, hl, hm, hmm, _, hx⟩
  · cases h0
    exact ⟨[], none, 0, rfl, by simp, Nat.le_refl _, fun _ => rfl, .inl rfl⟩
  · cases h0
    simp only [if_true] at hmm
    subst hmm
    have hb : ∀ i, i < m → ∃ b : α, R w (V i) b := fun i hi => hel n (V i) _ (hx i hi).2
    obtain ⟨f, hf⟩ := choose_lt hb
    have hlen : ((List.range len).map f).length = len := by simp
    refine ⟨(List.range len).map f, some a, m, by rw [hlen], by omega, by omega, fun h => (by cases h), ?_⟩
    by_cases hz : len = 0
    · left; subst hz; rfl
    · right
      have hx0 := spot_none (x := a) (by simpa [Addr.add] using (hx 0 (by omega)).1)
      refine ⟨a.block, a.off, by rw [← hx0], fun j b hjb => ?_⟩
      have hj : j < len := by have := (List.getElem?_eq_some_iff.1 hjb).1; omega
      have h6 := (hx j (by omega)).1
      rw [hx0, Addr.add_mid] at h6
      refine ⟨_, h6, ?_⟩
      simp [hj] at hjb
      subst hjb
      exact hf j (by omega)

theorem bytes_of_reads {t e : TypeId} {fuel : Nat} {v : Value} {x : DataW H × List MemPlace} (ht : P.underlying t = some (.slice e)) (he : P.underlying e = some (.int .u8)) (hc : P.cellsOf e = 1)
    (h : Reads enc P w fuel t [v] x) : ∃ l : List UInt8, Bytes w v l :=
  slice_of_reads ht hc h fun _ _ _ hy => byte_of_reads he hy

theorem rows_of_reads {t e q : TypeId} {fuel : Nat} {v : Value} {x : DataW H × List MemPlace} (ht : P.underlying t = some (.slice e)) (he : P.underlying e = some (.slice q)) (hq : P.underlying q = some (.int .u8))
    (ce : P.cellsOf e = 1) (cq : P.cellsOf q = 1) (h : Reads enc P w fuel t [v] x) : ∃ l : List (List UInt8), Rows8 w v l :=
  slice_of_reads ht ce h fun _ _ _ hy => bytes_of_reads he hq cq hy

end
end Go.Proofs.Ytnbncjebmlicgaa
