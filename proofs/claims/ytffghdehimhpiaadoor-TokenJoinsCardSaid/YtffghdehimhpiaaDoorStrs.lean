/- Rows of strings of one's own. -/
import Derived.Test.YtffghdehimhpiaaDoorOpRight
namespace Go.Proofs.YtffghdehimhpiaaDoor
open Go.RowKit

theorem rowStr : RowTy Tryd.prog 38 9 1 16 := RowTy.mk' (z := .string ByteArray.empty) Tryd.underlying38 (by kernel_rfl) rfl (by omega)

def OwnStrs (base : Nat) (w : World) (v : Value) (ls : List (List UInt8)) : Prop := w.ownsRow base 9 1 v ls.length (ls.map strV)

theorem strs_lit (w : World) (l : List UInt8) : OwnStrs w.heap.size (w.alloc (.cells #[strV l] 9)) (.slice (some ⟨w.heap.size, 0, none⟩) 1 1) [l] :=
  ⟨rfl, .inr ⟨w.heap.size, 1, #[strV l], rfl, Nat.le_refl _, heap_alloc_new w _, Nat.le_refl _, by decide, rfl, rfl⟩⟩

theorem OwnStrs.open {base : Nat} {w : World} {v : Value} {ls : List (List UInt8)} (h : OwnStrs base w v ls) (hne : ls ≠ []) :
    ∃ bk c, v = .slice (some ⟨bk, 0, none⟩) ls.length c ∧ ls.length ≤ c ∧ bk < w.heap.size ∧ ∀ (j : Nat) x, (ls.map mk8)[j]? = some x → w.cell? ⟨bk, 0 + j, none⟩ = some (.string x) := by
  obtain ⟨-, ⟨-, h0⟩ | ⟨g, cap, cur, rfl, -, hg, hc, -, -, ht⟩⟩ := h
  · exact absurd (List.eq_nil_of_length_eq_zero h0) hne
  · refine ⟨g, cap, rfl, hc, (Array.getElem?_eq_some_iff.1 hg).1, fun j x hx => ?_⟩
    have hj : j < ls.length := by
      have := (List.getElem?_eq_some_iff.1 hx).1
      simpa using this
    rw [Nat.zero_add, cell_row hg, ← Array.getElem?_toList]
    have h2 : (cur.toList.take (ls.length * 1))[j]? = cur.toList[j]? := by rw [List.getElem?_take, if_pos (by omega)]
    rw [← h2, ht]
    rw [List.getElem?_map] at hx ⊢
    cases hl : ls[j]? with
    | none => rw [hl] at hx; cases hx
    | some l =>
      rw [hl] at hx
      cases hx
      rfl

end Go.Proofs.YtffghdehimhpiaaDoor
