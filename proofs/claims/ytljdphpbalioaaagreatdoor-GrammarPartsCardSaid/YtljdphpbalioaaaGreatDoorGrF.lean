/- The contracts of what makes trees. No walk. -/
import Derived.Test.YtljdphpbalioaaaGreatDoorGrO
namespace Go.Proofs.YtljdphpbalioaaaGreatDoor
open Go.RowKit

theorem ptrs_lit (w : World) (D : Nat) (hD : D ≤ w.heap.size) (ps : List Value) (hm : ps.length ≤ maxLen) : OwnPtrs D (w.alloc (.cells ps.toArray 47)) (.slice (some ⟨w.heap.size, 0, none⟩) ps.length ps.length) ps :=
  ⟨by simp, .inr ⟨w.heap.size, ps.length, ps.toArray, rfl, hD, heap_alloc_new w _, Nat.le_refl _, hm, by simp, by simp⟩⟩
theorem DoneAt.ptr {w : World} {B : Nat} {v : Value} {t : Tr} {bs : List Nat} (h : DoneAt w B v t bs) : ∃ g, v = .pointer (some ⟨g, 0, none⟩) := by
  have h1 := h.at'
  cases t with
  | mk k name num typ mod tgt kids =>
    simp only [TrAt] at h1
    obtain ⟨g, kv, ps, bss, h2, -⟩ := h1
    exact ⟨g, h2⟩
/-- what is asked of the memory -/
structure Asks (w : World) (g : Nat) (ta : Option Addr) (tc : Nat) (ts : List Tok) (B : Nat) (s : PS) : Prop where
  pat : PAt w g ta tc ts s
  tb : Tb B w
  low : B ≤ w.heap.size
  hta : ∀ q, ta = some ⟨q, 0, none⟩ → q < w.heap.size
  big : B ≤ g
/-- what is said where a tree is made -/
def TreeSays (g : Nat) (ta : Option Addr) (tc : Nat) (ts : List Tok) (w : World) (r : Tr × PS) (e : Ending) (w' : World) : Prop :=
  ∃ v bs, e = .returned v ∧ DoneAt w' w.heap.size v r.1 bs ∧ PAt w' g ta tc ts r.2 ∧ Only w w' (fun k => k = g)
def ExprIH (g : Nat) (ta : Option Addr) (tc : Nat) (ts : List Tok) (B n : Nat) : Prop :=
  ∀ s w, muOf ts s ≤ n → Gr.Okw ts s → Asks w g ta tc ts B s → Calls Tryz.prog 50 #[.pointer (some ⟨g, 0, none⟩)] w (TreeSays g ta tc ts w (Gr.expr ts n s))
end Go.Proofs.YtljdphpbalioaaaGreatDoor
