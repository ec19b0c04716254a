/- Trees in memory. -/
import Derived.Test.YtljdphpbalioaaaGreatDoorGrE
import Derived.Test.YtljdphpbalioaaaGreatDoorPreB
namespace Go.Proofs.YtljdphpbalioaaaGreatDoor
open Go.RowKit

def boxRow (k : Nat) (name : List UInt8) (num : Int) (typ ref : Nat) (nk : Value) (mod tgt : List UInt8) (kv : Value) (id : Nat) : Array Value :=
  #[.int .u8 k, .string (mk8 name), .int .i64 num, .int .u8 typ, .int .u64 ref, nk, .string (mk8 mod), .string (mk8 tgt), kv, .int .u64 id]
def OwnPtrs (base : Nat) (w : World) (v : Value) (ps : List Value) : Prop := w.ownsRow base 47 1 v ps.length ps
def rowB (v : Value) : List Nat := match v.ownBlock with | some q => [q] | none => []
theorem mem_rowB {v : Value} {k : Nat} : k ∈ rowB v ↔ v.ownBlock = some k := by
  unfold rowB
  cases v.ownBlock with
  | none => simp
  | some q => simp [eq_comm]
mutual
/-- a tree, at a pointer; the blocks that it has: boxes, and rows of pointers -/
def TrAt (w : World) (v : Value) : Tr → List Nat → Prop
  | .mk k name num typ mod tgt kids, bs => ∃ g kv ps bss, v = .pointer (some ⟨g, 0, none⟩) ∧ w.heap[g]? = some (.cells (boxRow k name num typ 0 (.slice none 0 0) mod tgt kv 0) 75 (0, 0)) ∧ OwnPtrs 0 w kv ps ∧ bs = g :: (rowB kv ++ bss) ∧ KidsAt w ps kids bss
def KidsAt (w : World) (ps : List Value) : List Tr → List Nat → Prop
  | [], bs => ps = [] ∧ bs = []
  | t :: ts, bs => ∃ p r b1 b2, ps = p :: r ∧ bs = b1 ++ b2 ∧ TrAt w p t b1 ∧ KidsAt w r ts b2
end

mutual
theorem TrAt.only {w w' : World} {S : Nat → Prop} (ho : Only w w' S) : ∀ (t : Tr) (v : Value) (bs : List Nat), TrAt w v t bs → (∀ b ∈ bs, ¬ S b) → TrAt w' v t bs
  | .mk k name num typ mod tgt kids, v, bs, h, hs => by
    simp only [TrAt] at h ⊢
    obtain ⟨g, kv, ps, bss, rfl, hg, hp, rfl, hk⟩ := h
    refine ⟨g, kv, ps, bss, rfl, (ho.block g (Array.getElem?_eq_some_iff.1 hg).1 (hs g (List.mem_cons_self ..))).trans hg, own_only hp ho fun q hq => hs q (List.mem_cons_of_mem _ (List.mem_append_left _ (mem_rowB.2 hq))), rfl, ?_⟩
    exact KidsAt.only ho kids ps bss hk fun b hb => hs b (List.mem_cons_of_mem _ (List.mem_append_right _ hb))
theorem KidsAt.only {w w' : World} {S : Nat → Prop} (ho : Only w w' S) : ∀ (l : List Tr) (ps : List Value) (bs : List Nat), KidsAt w ps l bs → (∀ b ∈ bs, ¬ S b) → KidsAt w' ps l bs
  | [], ps, bs, h, _ => by
    simp only [KidsAt] at h ⊢
    exact h
  | t :: l, ps, bs, h, hs => by
    simp only [KidsAt] at h ⊢
    obtain ⟨p, r, b1, b2, rfl, rfl, h1, h2⟩ := h
    exact ⟨p, r, b1, b2, rfl, rfl, TrAt.only ho t p b1 h1 fun b hb => hs b (List.mem_append_left _ hb), KidsAt.only ho l r b2 h2 fun b hb => hs b (List.mem_append_right _ hb)⟩
end
theorem TrAt.below {w w' : World} {t : Tr} {v : Value} {bs : List Nat} (h : TrAt w v t bs) (hb : Below w.heap.size w w') : TrAt w' v t bs := TrAt.only (Only.of_below hb fun _ => False) t v bs h fun _ _ h => h
theorem KidsAt.below {w w' : World} {l : List Tr} {ps : List Value} {bs : List Nat} (h : KidsAt w ps l bs) (hb : Below w.heap.size w w') : KidsAt w' ps l bs := KidsAt.only (Only.of_below hb fun _ => False) l ps bs h fun _ _ h => h
theorem KidsAt.len {w : World} : ∀ {l : List Tr} {ps : List Value} {bs : List Nat}, KidsAt w ps l bs → ps.length = l.length
  | [], ps, bs, h => by simp only [KidsAt] at h; rw [h.1]; rfl
  | t :: l, ps, bs, h => by
    simp only [KidsAt] at h
    obtain ⟨p, r, b1, b2, rfl, rfl, h1, h2⟩ := h
    rw [List.length_cons, List.length_cons, h2.len]
theorem KidsAt.snoc {w : World} {t : Tr} {p : Value} {b : List Nat} (ht : TrAt w p t b) : ∀ {l : List Tr} {ps : List Value} {bs : List Nat}, KidsAt w ps l bs → KidsAt w (ps ++ [p]) (l ++ [t]) (bs ++ b)
  | [], ps, bs, h => by
    simp only [KidsAt] at h
    obtain ⟨rfl, rfl⟩ := h
    simp only [List.nil_append, KidsAt]
    exact ⟨p, [], b, [], rfl, by simp, ht, rfl, rfl⟩
  | u :: l, ps, bs, h => by
    simp only [KidsAt] at h
    obtain ⟨q, r, b1, b2, rfl, rfl, h1, h2⟩ := h
    simp only [List.cons_append, KidsAt]
    exact ⟨q, r ++ [p], b1, b2 ++ b, rfl, by rw [List.append_assoc], h1, h2.snoc ht⟩

/-- a node that is being built: its box (of any fields), its kids so far; the blocks that these have, all new since B, and each once -/
structure OpenAt (w : World) (B g : Nat) (k : Nat) (name : List UInt8) (num : Int) (typ : Nat) (mod tgt : List UInt8) (kids : List Tr) (bs : List Nat) : Prop where
  ex : ∃ kv ps bss, w.heap[g]? = some (.cells (boxRow k name num typ 0 (.slice none 0 0) mod tgt kv 0) 75 (0, 0)) ∧ OwnPtrs B w kv ps ∧ bs = rowB kv ++ bss ∧ KidsAt w ps kids bss
  once : (g :: bs).Nodup
  new : ∀ b ∈ g :: bs, B ≤ b ∧ b < w.heap.size
/-- a tree that is done: as a result -/
structure DoneAt (w : World) (B : Nat) (v : Value) (t : Tr) (bs : List Nat) : Prop where
  at' : TrAt w v t bs
  once : bs.Nodup
  new : ∀ b ∈ bs, B ≤ b ∧ b < w.heap.size
theorem OpenAt.done {w : World} {B g k typ : Nat} {name mod tgt : List UInt8} {num : Int} {kids : List Tr} {bs : List Nat} (h : OpenAt w B g k name num typ mod tgt kids bs) : DoneAt w B (.pointer (some ⟨g, 0, none⟩)) (.mk k name num typ mod tgt kids) (g :: bs) := by
  obtain ⟨⟨kv, ps, bss, h1, h2, rfl, h4⟩, h5, h6⟩ := h
  refine ⟨?_, h5, h6⟩
  simp only [TrAt]
  exact ⟨g, kv, ps, bss, rfl, h1, ownsRow_base h2 (Nat.zero_le _), rfl, h4⟩
theorem OpenAt.only {w w' : World} {B g k typ : Nat} {name mod tgt : List UInt8} {num : Int} {kids : List Tr} {bs : List Nat} {S : Nat → Prop} (h : OpenAt w B g k name num typ mod tgt kids bs) (ho : Only w w' S) (hs : ∀ b ∈ g :: bs, ¬ S b) : OpenAt w' B g k name num typ mod tgt kids bs := by
  obtain ⟨⟨kv, ps, bss, h1, h2, rfl, h4⟩, h5, h6⟩ := h
  refine ⟨⟨kv, ps, bss, (ho.block g (Array.getElem?_eq_some_iff.1 h1).1 (hs g (List.mem_cons_self ..))).trans h1, own_only h2 ho fun q hq => hs q (List.mem_cons_of_mem _ (List.mem_append_left _ (mem_rowB.2 hq))), rfl, KidsAt.only ho kids ps bss h4 fun b hb => hs b (List.mem_cons_of_mem _ (List.mem_append_right _ hb))⟩, h5, fun b hb => ⟨(h6 b hb).1, Nat.lt_of_lt_of_le (h6 b hb).2 ho.size⟩⟩
theorem DoneAt.only {w w' : World} {B : Nat} {v : Value} {t : Tr} {bs : List Nat} {S : Nat → Prop} (h : DoneAt w B v t bs) (ho : Only w w' S) (hs : ∀ b ∈ bs, ¬ S b) : DoneAt w' B v t bs :=
  ⟨TrAt.only ho t v bs h.at' hs, h.once, fun b hb => ⟨(h.new b hb).1, Nat.lt_of_lt_of_le (h.new b hb).2 ho.size⟩⟩
end Go.Proofs.YtljdphpbalioaaaGreatDoor
