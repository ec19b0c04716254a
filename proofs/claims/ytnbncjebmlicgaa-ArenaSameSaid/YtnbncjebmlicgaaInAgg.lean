/- What comes in: a struct by value, its fields of one cell each. No program is in sight. -/
import Derived.Test.YtnbncjebmlicgaaIn
import Derived.Deep.Fields
namespace Go.Proofs.Ytnbncjebmlicgaa
open Go.RowKit Go.Deep Go.WideShapes Go.Proofs

theorem open_aggN {H : Type} {enc : TypeId × Value → H} {P : Program} {w : World} {r : Reach} {b0 : Nat} {t : TypeId} {fs : Array Field} {v : Value} {d : DataW H} {p : List MemPlace} (hs : P.underlying t = some (.struct fs)) (hone : oneCellFields P fs = true) (hC : P.cellsOf t = fs.size)
    (hv : Value.okWide P w r b0 t v) (h : DataW.Trod enc P w 0 (fun _ => true) true t v d p) :
    ∃ cs, v = .agg cs ∧ cs.size = fs.size ∧ ∀ (i : Nat) f, fs[i]? = some f → ∃ (u : Value) (n : Nat) (y : DataW H × List MemPlace), cs[i]? = some u ∧ Reads enc P w n f.type [u] y := by
  obtain ⟨cs, rfl, hsz⟩ := okWide_struct hs hv
  obtain ⟨fuel, hf⟩ := h
  obtain ⟨xs, n, _, _, _, hlen, hall⟩ := DataW.trod_struct hs hf
  refine ⟨cs, rfl, hsz.trans hC, fun i f hi => ?_⟩
  obtain ⟨o0, k0⟩ := hone_of hone i f hi
  have hif := (Array.getElem?_eq_some_iff.1 hi).1
  have hx := hall i f hi
  have hic : i < cs.size := by omega
  rw [o0, k0, List.getElem?_eq_getElem (by omega)] at hx
  refine ⟨cs[i], n, xs[i]'(by omega), Array.getElem?_eq_getElem hic, ?_⟩
  have e : (((Value.agg cs).cells.toList.drop i).take 1) = [cs[i]] := by
    show ((cs.toList.drop i).take 1) = _
    rw [List.drop_eq_getElem_cons (by simpa using hic)]
    simp
  rw [e] at hx
  exact hx
end Go.Proofs.Ytnbncjebmlicgaa
