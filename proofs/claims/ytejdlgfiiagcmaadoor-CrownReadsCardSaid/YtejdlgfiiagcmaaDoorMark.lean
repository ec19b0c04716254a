/- '[]byte("..")' of a constant, its literal laid earlier: the block is marked, the cells stay. No program is in sight. -/
import Derived.Test.YtejdlgfiiagcmaaDoorPreA
namespace Go.Proofs.YtejdlgfiiagcmaaDoor
open Go.RowKit

/-- a literal in a block of its own, whatever its mark -/
def Lit (w : World) (g : Nat) (cs : Array Value) (e B : Nat) : Prop := (∃ fr, w.heap[g]? = some (.cells cs e fr)) ∧ B ≤ g
theorem Lit.below {w w' : World} {g : Nat} {cs : Array Value} {e B : Nat} (h : Lit w g cs e B) (hb : Below w.heap.size w w') : Lit w' g cs e B := by
  obtain ⟨⟨fr, h⟩, hB⟩ := h
  exact ⟨⟨fr, (hb.block g (Array.getElem?_eq_some_iff.1 h).1).trans h⟩, hB⟩

theorem run_conv_mark {P : Program} (w : World) (t e : Nat) (g n c : Nat) (C : Array Value) (fr : Nat × Nat) (hg : w.heap[g]? = some (.cells C e fr)) (ht : P.underlying t = some (.slice e)) (he : P.underlying e = some (.int .u8)) :
    (convert t t (.slice (some ⟨g, 0, none⟩) n c)).run P w = .ok (.slice (some ⟨g, 0, none⟩) n c) (w.freeze ⟨g, C.size, none⟩ 1) := by
  have hsh : w.shape? g = some (e, C.size) := by unfold World.shape?; rw [hg]
  simp [convert, run_underlying ht, run_underlying he, markStringish, hsh]

theorem freeze_other (w : World) (g k o : Nat) (h : k ≠ g) : (w.freeze ⟨g, o, none⟩ 1).heap[k]? = w.heap[k]? := by
  unfold World.freeze
  rw [if_neg (by decide)]
  simp only [Array.getElem?_modify, if_neg (Ne.symm h)]
theorem freeze_own (w : World) (g o : Nat) (C : Array Value) (e : Nat) (fr : Nat × Nat) (h : w.heap[g]? = some (.cells C e fr)) : ∃ fr', (w.freeze ⟨g, o, none⟩ 1).heap[g]? = some (.cells C e fr') := by
  unfold World.freeze
  rw [if_neg (by decide)]
  simp only [Array.getElem?_modify, if_true, h, Option.map_some]
  exact ⟨_, rfl⟩
theorem freeze_below (w : World) (g o B : Nat) (h : B ≤ g) : Below B w (w.freeze ⟨g, o, none⟩ 1) := by
  refine ⟨?_, ?_, ?_, ?_, fun k hk => freeze_other w g k o (by omega)⟩ <;> (unfold World.freeze; rw [if_neg (by decide)])
  simp

theorem freeze_cells (w : World) (g o : Nat) (C : Array Value) (e : Nat) (fr : Nat × Nat) (h : w.heap[g]? = some (.cells C e fr)) (p : Addr) (v : Value) (hp : w.cell? p = some v) : (w.freeze ⟨g, o, none⟩ 1).cell? p = some v := by
  by_cases hg : p.block = g
  · obtain ⟨fr', h'⟩ := freeze_own w g o C e fr h
    unfold World.cell? at hp ⊢
    rw [hg, h] at hp
    rw [hg, h']
    exact hp
  · unfold World.cell? at hp ⊢
    rw [freeze_other w g _ o hg]
    exact hp

theorem Bytes.cells {w w' : World} {v : Value} {l : List UInt8} (h : Bytes w v l) (hk : ∀ (p : Addr) u, w.cell? p = some u → w'.cell? p = some u) : Bytes w' v l := by
  obtain ⟨a, c, rfl, h1, h2, h3, h4⟩ := h
  refine ⟨a, c, rfl, h1, h2, h3, ?_⟩
  rcases h4 with h4 | ⟨g, o, ha, h4⟩
  · exact .inl h4
  · exact .inr ⟨g, o, ha, fun j x hx => by obtain ⟨u, hu, hb⟩ := h4 j x hx; exact ⟨u, hk _ _ hu, hb⟩⟩

theorem cell_row' {w : World} {g i e : Nat} {cs : Array Value} {fr : Nat × Nat} (h : w.heap[g]? = some (.cells cs e fr)) : w.cell? ⟨g, i, none⟩ = cs[i]? := by simp [World.cell?, h]

theorem Lit.bytes {w : World} {g : Nat} {l : List UInt8} {cs : Array Value} {e B n : Nat} (h : Lit w g cs e B) (hc : cs.toList = l.map B8) (hn : n = l.length) (hm : l.length ≤ maxLen) : Bytes w (.slice (some ⟨g, 0, none⟩) n n) l := by
  subst hn
  obtain ⟨⟨fr, h⟩, -⟩ := h
  refine ⟨some ⟨g, 0, none⟩, l.length, rfl, hm, Nat.le_refl _, fun h => (by cases h), .inr ⟨g, 0, rfl, fun j x hx => ⟨B8 x, ?_, rfl⟩⟩⟩
  rw [Nat.zero_add, cell_row' h, ← Array.getElem?_toList, hc, List.getElem?_map, hx]
  rfl
end Go.Proofs.YtejdlgfiiagcmaaDoor
