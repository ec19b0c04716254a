/- A tree in memory as a tree with its blocks at the nodes; tokens in memory. No walk. -/
import Derived.Test.YtljdphpbalioaaaGreatDoorGnB
import Derived.Test.YtljdphpbalioaaaGreatDoorGrW
namespace Go.Proofs.YtljdphpbalioaaaGreatDoor
open Go.RowKit

mutual
theorem TrAt.lt {w : World} {N0 : Nat} : ∀ (t : Tr) (v : Value) (bs : List Nat), TrAt w v t bs → (∀ b ∈ bs, b < N0) → ∃ T : LT Nat, T.bare = t ∧ v = ptrG T.lab ∧ MemT w N0 T.nodes (fun _ => 0) (fun _ => 0) (fun _ => .slice none 0 0) ∧ (T.nodes.map LT.lab).Sublist bs
  | .mk k name num typ mod tgt kids, v, bs, h, hlt => by
    simp only [TrAt] at h
    obtain ⟨g, kv, ps, bss, rfl, hg, hp, rfl, hk⟩ := h
    obtain ⟨Ts, h1, h2, h3, h4⟩ := KidsAt.lt kids ps bss hk fun b hb => hlt b (List.mem_cons_of_mem _ (List.mem_append_right _ hb))
    refine ⟨.mk g k name num typ mod tgt Ts, by simp only [LT.bare, h1], rfl, fun a ha => ?_, ?_⟩
    · unfold LT.nodes at ha
      rcases List.mem_cons.1 ha with rfl | ha
      · exact ⟨⟨kv, hg, by show OwnPtrs 0 w kv (Ts.map fun k => ptrG k.lab); rw [← h2]; exact hp, fun q hq => hlt q (List.mem_cons_of_mem _ (List.mem_append_left _ (mem_rowB.2 hq)))⟩, hlt g (List.mem_cons_self ..)⟩
      · exact h3 a ha
    · unfold LT.nodes
      rw [List.map_cons]
      exact List.Sublist.cons_cons g (List.Sublist.trans h4 (List.sublist_append_right _ _))
theorem KidsAt.lt {w : World} {N0 : Nat} : ∀ (l : List Tr) (ps : List Value) (bs : List Nat), KidsAt w ps l bs → (∀ b ∈ bs, b < N0) → ∃ Ts : List (LT Nat), LT.bareL Ts = l ∧ ps = Ts.map (fun k => ptrG k.lab) ∧ MemT w N0 (LT.nodesL Ts) (fun _ => 0) (fun _ => 0) (fun _ => .slice none 0 0) ∧ ((LT.nodesL Ts).map LT.lab).Sublist bs
  | [], ps, bs, h, _ => by
    simp only [KidsAt] at h
    obtain ⟨rfl, rfl⟩ := h
    exact ⟨[], rfl, rfl, (fun a ha => nomatch ha), List.nil_sublist _⟩
  | t :: l, ps, bs, h, hlt => by
    simp only [KidsAt] at h
    obtain ⟨p, r, b1, b2, rfl, rfl, h1, h2⟩ := h
    obtain ⟨T, e1, e2, e3, e4⟩ := TrAt.lt t p b1 h1 fun b hb => hlt b (List.mem_append_left _ hb)
    obtain ⟨Ts, f1, f2, f3, f4⟩ := KidsAt.lt l r b2 h2 fun b hb => hlt b (List.mem_append_right _ hb)
    refine ⟨T :: Ts, by simp only [LT.bareL, e1, f1], by rw [List.map_cons, ← e2, ← f2], fun a ha => ?_, ?_⟩
    · unfold LT.nodesL at ha
      rcases List.mem_append.1 ha with ha | ha
      · exact e3 a ha
      · exact f3 a ha
    · unfold LT.nodesL
      rw [List.map_append]
      exact List.Sublist.append e4 f4
end
theorem flat_get3 (ts : List Tok) : ∀ (j : Nat) (t : Tok) (i : Nat) (u : Value), ts[j]? = some t → (tokCells t)[i]? = some u → i < 3 → (ts.flatMap tokCells)[j * 3 + i]? = some u := by
  induction ts with
  | nil => intro j t i u h; cases h
  | cons x r ih =>
    intro j t i u h hi h3
    rw [List.flatMap_cons]
    cases j with
    | zero =>
      cases h
      rw [List.getElem?_append_left (by show 0 * 3 + i < 3; omega), Nat.zero_mul, Nat.zero_add]
      exact hi
    | succ j =>
      have e : (j + 1) * 3 + i - (tokCells x).length = j * 3 + i := by show (j + 1) * 3 + i - 3 = _; omega
      rw [List.getElem?_append_right (by show 3 ≤ (j + 1) * 3 + i; omega), e]
      exact ih j t i u h hi h3
theorem OwnToks.toks {base : Nat} {w : World} {v : Value} {ts : List Tok} (h : OwnToks base w v ts) : ∃ ta tc, v = .slice ta ts.length tc ∧ ts.length ≤ tc ∧ ToksAt w ta ts ∧ (∀ q, ta = some ⟨q, 0, none⟩ → q < w.heap.size ∧ base ≤ q) := by
  obtain ⟨a, c, rfl, h1, -, -, h2, h3⟩ := ownsRow_lies h
  refine ⟨a, c, rfl, h1, ?_, fun q hq => ⟨(h3 q 0 none hq).2.1, (h3 q 0 none hq).1⟩⟩
  rcases h2 with h0 | ⟨g, o, ha, hr⟩
  · refine .inl ?_
    cases ts with
    | nil => rfl
    | cons t r => cases h0
  · have ho := (h3 g o none ha).2.2.1
    subst ho
    refine .inr ⟨g, ha, fun j t hj => ?_⟩
    have key : ∀ i u, i < 3 → (tokCells t)[i]? = some u → w.cell? ⟨g, j * 3 + i, none⟩ = some u := fun i u hi hu => by
      have h5 := hr (j * 3 + i) u (flat_get3 ts j t i u hj hu hi)
      rw [Nat.zero_add] at h5
      exact h5
    exact ⟨key 0 _ (by decide) rfl, key 1 _ (by decide) rfl, key 2 _ (by decide) rfl⟩
end Go.Proofs.YtljdphpbalioaaaGreatDoor
