/- Walks: a writer of bytes: add. -/
import Derived.Test.YtminfdlhbecnhaaGreatDoorChecked
import Derived.Test.YtminfdlhbecnhaaGreatDoorApp
import Derived.Test.YtminfdlhbecnhaaGreatDoorClone
namespace Go.Proofs.YtminfdlhbecnhaaGreatDoor
open Go.RowKit

/-- the block in which what a one-field object owns lies -/
def slotBlock (w : World) (g : Nat) : Option Nat := (w.cell? ⟨g, 0, none⟩).bind Value.ownBlock

/-- a writer that holds the bytes l -/
def WriterAt (base : Nat) (w : World) (g : Nat) (l : List UInt8) : Prop :=
  ∃ v, w.heap[g]? = some (.cells #[v] 52 (0, 0)) ∧ Own8 5 base w v l

/-- only the writer at g has turned, and where its bytes lie -/
structure Grew (w w' : World) (g : Nat) : Prop where
  only : Only w w' (fun k => k = g ∨ slotBlock w g = some k)
  fresh : slotBlock w' g = slotBlock w g ∨ ∀ k, slotBlock w' g = some k → w.heap.size ≤ k

theorem Grew.refl (w : World) (g : Nat) : Grew w w g := ⟨Only.refl _ _, .inl rfl⟩
theorem Grew.trans {a b c : World} {g : Nat} (h : Grew a b g) (k : Grew b c g) : Grew a c g := by
  refine ⟨h.only.trans k.only (fun i hi ht => ?_), ?_⟩
  · rcases ht with rfl | ht
    · exact .inl rfl
    · rcases h.fresh with hf | hf
      · right; rw [← hf]; exact ht
      · have := hf i ht; omega
  · rcases k.fresh with hk | hk
    · rcases h.fresh with hf | hf
      · left; rw [hk, hf]
      · right; intro i hi; rw [hk] at hi; exact hf i hi
    · right; intro i hi; exact Nat.le_trans h.only.size (hk i hi)

theorem slotBlock_at {w : World} {g : Nat} {v : Value} {T : Nat} (h : w.heap[g]? = some (.cells #[v] T (0, 0))) : slotBlock w g = v.ownBlock := by
  unfold slotBlock
  rw [cell_of_row w g 0 _ _ _ h]
  rfl

theorem own8_block {e base : Nat} {w : World} {v : Value} {l : List UInt8} (h : Own8 e base w v l) {g : Nat} (hg : v.ownBlock = some g) : ∃ cur, w.heap[g]? = some (.cells cur e (0, 0)) := by
  rcases h.2 with ⟨rfl, _⟩ | ⟨g', c, cur, rfl, _, hg', _⟩
  · cases hg
  · simp [Value.ownBlock] at hg
    subst hg
    exact ⟨cur, hg'⟩

theorem own8_ne {e base T : Nat} {w : World} {v : Value} {l : List UInt8} (h : Own8 e base w v l) {g : Nat} {cs : Array Value} {fr : Nat × Nat} (hg : w.heap[g]? = some (.cells cs T fr)) (hT : T ≠ e) : v.ownBlock ≠ some g := by
  intro hb
  obtain ⟨cur, hc⟩ := own8_block h hb
  rw [hg] at hc
  cases hc
  exact hT rfl

set_option maxRecDepth 10000 in
set_option maxHeartbeats 400000 in
theorem add_any (base g : Nat) (l : List UInt8) (u : Value) (m : List UInt8) (w : World) (hw : WriterAt base w g l) (hm : Bytes w u m) (hbig : l.length + m.length ≤ 140737488355328) (hbase : base ≤ w.heap.size) :
    Calls Tryz.prog 48 #[.pointer (some ⟨g, 0, none⟩), u] w fun e w' =>
      e = .returned (.pointer (some ⟨g, 0, none⟩)) ∧ WriterAt base w' g (l ++ m) ∧ Grew w w' g := by
  obtain ⟨v, hg, hown⟩ := hw
  obtain ⟨a, c, rfl, _, _, _, _⟩ := id hm
  have hcell : w.cell? ⟨g, 0, none⟩ = some v := cell_of_row w g 0 _ _ _ hg
  have HG := Lib.hid hg
  have hne : v.ownBlock ≠ some g := own8_ne hown hg (by decide)
  clear hg
  go_enter Tryz.func48, Tryz.ntmps48
  go_wp2_with (at_builtin; refine wpList_app8' rfl _ _ 26 5 row8 rfl base v l rfl hown _ m rfl hm hbig hbase ?_; intro v' w1 h1 h2 h3; obtain ⟨a1, n1, c1, rfl⟩ := h1.isSlice; have hg1 := h2.block g (block_lt_of_cell hcell) (fun e => hne e.symm); have hcell1 := (World.cell?_of_block (a := ⟨g, 0, none⟩) hg1).trans hcell; have hfr1 := (World.frozen?_of_block (a := ⟨g, 0, none⟩) hg1).trans (frozen_of_row w g 0 _ _ HG.out))
  go_ret
  have hgw := hg1.trans HG.out
  have hst : (w1.setCell ⟨g, 0, none⟩ (.slice a1 n1 c1)).heap[g]? = some (.cells #[.slice a1 n1 c1] 52 (0, 0)) := heap_setCell_same w1 g 0 _ _ (.slice a1 n1 c1) hgw
  have hne1 : (Value.slice a1 n1 c1).ownBlock ≠ some g := own8_ne h1 hgw (by decide)
  have hown2 : Own8 5 base (w1.setCell ⟨g, 0, none⟩ (.slice a1 n1 c1)) (.slice a1 n1 c1) (l ++ m) :=
    World.ownsRow.kept (row := some g) h1 ⟨rfl, rfl, rfl, by simp [World.setCell], fun k _ hk => heap_setCell_other _ _ _ _ (fun e => hk (by rw [e]))⟩ (.inr hne1)
  refine ⟨rfl, ⟨_, hst, hown2⟩, ?_, ?_⟩
  · refine ((Only.of_grown h2).mono (T := fun k => k = g ∨ slotBlock w g = some k) (fun i _ hi => .inr ?_)).trans (Only.setCell _ _ _) (fun i _ hi => .inl hi)
    rw [slotBlock_at HG.out]
    exact hi
  · rw [slotBlock_at hst, slotBlock_at HG.out]
    rcases h3 with h | h
    · exact .inl h
    · exact .inr h
end Go.Proofs.YtminfdlhbecnhaaGreatDoor
