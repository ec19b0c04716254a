/- A node that is being built: what is stored into it. -/
import Derived.Test.YtljdphpbalioaaaGreatDoorGrT
import Derived.Test.YtljdphpbalioaaaGreatDoorGrQ
namespace Go.Proofs.YtljdphpbalioaaaGreatDoor
open Go.RowKit

def nilS : Value := .slice none 0 0
theorem OpenAt.fresh (w : World) (B : Nat) (hB : B ≤ w.heap.size) (k : Nat) (name : List UInt8) (num : Int) (typ : Nat) (mod tgt : List UInt8) :
    OpenAt (w.alloc (.cells (boxRow k name num typ 0 (.slice none 0 0) mod tgt (.slice none 0 0) 0) 75)) B w.heap.size k name num typ mod tgt [] [] := by
  refine ⟨⟨.slice none 0 0, [], [], heap_alloc_new w _, World.ownsRow_nil _ _ _ _, rfl, by simp [KidsAt]⟩, by simp, fun b hb => ?_⟩
  have e : b = w.heap.size := by simpa using hb
  subst e
  exact ⟨hB, by simp⟩
theorem OpenAt.field {w : World} {B g k typ k' typ' : Nat} {name mod tgt name' mod' tgt' : List UInt8} {num num' : Int} {kids : List Tr} {bs : List Nat} (h : OpenAt w B g k name num typ mod tgt kids bs) (i : Nat) (u : Value)
    (hrow : ∀ kv, (boxRow k name num typ 0 (.slice none 0 0) mod tgt kv 0).setIfInBounds i u = boxRow k' name' num' typ' 0 (.slice none 0 0) mod' tgt' kv 0) :
    OpenAt (w.setCell ⟨g, i, none⟩ u) B g k' name' num' typ' mod' tgt' kids bs := by
  obtain ⟨⟨kv, ps, bss, h1, h2, rfl, h4⟩, h5, h6⟩ := h
  have ho := Only.setCell w ⟨g, i, none⟩ u
  have hn := (List.nodup_cons.1 h5).1
  have hg := heap_setCell_same w g i _ _ u h1
  rw [hrow kv] at hg
  refine ⟨⟨kv, ps, bss, hg, own_only h2 ho fun q hq e => hn ?_, rfl, KidsAt.only ho kids ps bss h4 fun b hb e => hn ?_⟩, h5, fun b hb => ⟨(h6 b hb).1, Nat.lt_of_lt_of_le (h6 b hb).2 ho.size⟩⟩
  · rw [← show q = g from e]; exact List.mem_append_left _ (mem_rowB.2 hq)
  · rw [← show b = g from e]; exact List.mem_append_right _ hb
theorem OpenAt.kind {w : World} {B g k typ : Nat} {name mod tgt : List UInt8} {num : Int} {kids : List Tr} {bs : List Nat} (h : OpenAt w B g k name num typ mod tgt kids bs) (k' : Nat) : OpenAt (w.setCell ⟨g, 0, none⟩ (.int .u8 k')) B g k' name num typ mod tgt kids bs := h.field 0 _ fun _ => rfl
theorem OpenAt.named {w : World} {B g k typ : Nat} {name mod tgt : List UInt8} {num : Int} {kids : List Tr} {bs : List Nat} (h : OpenAt w B g k name num typ mod tgt kids bs) (n' : List UInt8) : OpenAt (w.setCell ⟨g, 1, none⟩ (.string (mk8 n'))) B g k n' num typ mod tgt kids bs := h.field 1 _ fun _ => rfl
theorem OpenAt.numb {w : World} {B g k typ : Nat} {name mod tgt : List UInt8} {num : Int} {kids : List Tr} {bs : List Nat} (h : OpenAt w B g k name num typ mod tgt kids bs) (n' : Int) : OpenAt (w.setCell ⟨g, 2, none⟩ (.int .i64 n')) B g k name n' typ mod tgt kids bs := h.field 2 _ fun _ => rfl
theorem OpenAt.typed {w : World} {B g k typ : Nat} {name mod tgt : List UInt8} {num : Int} {kids : List Tr} {bs : List Nat} (h : OpenAt w B g k name num typ mod tgt kids bs) (t' : Nat) : OpenAt (w.setCell ⟨g, 3, none⟩ (.int .u8 t')) B g k name num t' mod tgt kids bs := h.field 3 _ fun _ => rfl
theorem OpenAt.target {w : World} {B g k typ : Nat} {name mod tgt : List UInt8} {num : Int} {kids : List Tr} {bs : List Nat} (h : OpenAt w B g k name num typ mod tgt kids bs) (t' : List UInt8) : OpenAt (w.setCell ⟨g, 7, none⟩ (.string (mk8 t'))) B g k name num typ mod t' kids bs := h.field 7 _ fun _ => rfl
/-- the node's first kids, all at once: a row that has just been laid -/
theorem OpenAt.kids {w : World} {B g k typ : Nat} {name mod tgt : List UInt8} {num : Int} {ks : List Tr} {bs b2 : List Nat} {kv : Value} {ps : List Value} (h : OpenAt w B g k name num typ mod tgt [] bs) (hp : OwnPtrs B w kv ps) (hk : KidsAt w ps ks b2)
    (hone : (g :: (rowB kv ++ b2)).Nodup) (hnew : ∀ b ∈ rowB kv ++ b2, B ≤ b ∧ b < w.heap.size) : OpenAt (w.setCell ⟨g, 8, none⟩ kv) B g k name num typ mod tgt ks (rowB kv ++ b2) := by
  obtain ⟨⟨kv0, ps0, bss, h1, h2, rfl, h4⟩, h5, h6⟩ := h
  have ho := Only.setCell w ⟨g, 8, none⟩ kv
  have hn := (List.nodup_cons.1 hone).1
  have hg := heap_setCell_same w g 8 _ _ kv h1
  refine ⟨⟨kv, ps, b2, hg, own_only hp ho fun q hq e => hn ?_, rfl, KidsAt.only ho ks ps b2 hk fun b hb e => hn ?_⟩, hone, fun b hb => ?_⟩
  · rw [← show q = g from e]; exact List.mem_append_left _ (mem_rowB.2 hq)
  · rw [← show b = g from e]; exact List.mem_append_right _ hb
  · have h7 : B ≤ b ∧ b < w.heap.size := by
      rcases List.mem_cons.1 hb with rfl | hb
      · exact h6 _ (List.mem_cons_self ..)
      · exact hnew b hb
    exact ⟨h7.1, Nat.lt_of_lt_of_le h7.2 ho.size⟩
/-- one kid more: the row has grown, or is another one -/
theorem OpenAt.more {w' : World} {B g k typ : Nat} {name mod tgt : List UInt8} {num : Int} {kids : List Tr} {b2 : List Nat} {t : Tr} {p kv kv' : Value} {ps : List Value} {bss : List Nat}
    (hrow : w'.heap[g]? = some (.cells (boxRow k name num typ 0 (.slice none 0 0) mod tgt kv 0) 75 (0, 0))) (hk : KidsAt w' ps kids bss) (ht : TrAt w' p t b2) (hp : OwnPtrs B w' kv' (ps ++ [p]))
    (hone : (g :: (rowB kv' ++ (bss ++ b2))).Nodup) (hnew : ∀ b ∈ g :: (rowB kv' ++ (bss ++ b2)), B ≤ b ∧ b < w'.heap.size) : OpenAt (w'.setCell ⟨g, 8, none⟩ kv') B g k name num typ mod tgt (kids ++ [t]) (rowB kv' ++ (bss ++ b2)) := by
  have ho := Only.setCell w' ⟨g, 8, none⟩ kv'
  have hn := (List.nodup_cons.1 hone).1
  have hg := heap_setCell_same w' g 8 _ _ kv' hrow
  have hks := hk.snoc ht
  refine ⟨⟨kv', ps ++ [p], bss ++ b2, hg, own_only hp ho fun q hq e => hn ?_, rfl, KidsAt.only ho _ _ _ hks fun b hb e => hn ?_⟩, hone, fun b hb => ⟨(hnew b hb).1, Nat.lt_of_lt_of_le (hnew b hb).2 ho.size⟩⟩
  · rw [← show q = g from e]; exact List.mem_append_left _ (mem_rowB.2 hq)
  · rw [← show b = g from e]; exact List.mem_append_right _ hb
theorem rowPtr : RowTy Tryz.prog 53 47 1 8 := RowTy.mk' (z := .pointer none) Tryz.underlying53 (by kernel_rfl) rfl (by omega)
end Go.Proofs.YtljdphpbalioaaaGreatDoor
