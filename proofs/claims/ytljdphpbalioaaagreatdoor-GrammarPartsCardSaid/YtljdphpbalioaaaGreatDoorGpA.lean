/- Plain: the numbers of a tree's nodes, and the tree with its numbers at its nodes. -/
import Derived.Test.YtljdphpbalioaaaGreatDoorGnP
namespace Go.Proofs.YtljdphpbalioaaaGreatDoor
open Go.RowKit

namespace Tr
mutual
def count : Tr → Nat
  | .mk _ _ _ _ _ _ ks => countL ks + 1
def countL : List Tr → Nat
  | [] => 0
  | t :: r => count t + countL r
end
end Tr
namespace LT
variable {α β : Type}
/-- what stands at the nodes, each ahead of its kids' -/
def labs (t : LT α) : List α := t.nodes.map LT.lab
def labsL (l : List (LT α)) : List α := (LT.nodesL l).map LT.lab
theorem labs_mk (a : α) (k : Nat) (n : Bs) (u : Int) (ty : Nat) (m g : Bs) (ks : List (LT α)) : labs (.mk a k n u ty m g ks) = a :: labsL ks := by
  unfold labs labsL nodes
  rfl
theorem labsL_nil : labsL ([] : List (LT α)) = [] := by unfold labsL nodesL; rfl
theorem labsL_cons (t : LT α) (r : List (LT α)) : labsL (t :: r) = labs t ++ labsL r := by
  unfold labsL
  rw [nodesL, List.map_append]
  rfl
theorem lab_mem (t : LT α) : t.lab ∈ labs t := by
  obtain ⟨a, k, n, u, ty, m, g, ks⟩ := t
  rw [labs_mk]
  exact List.mem_cons_self ..
theorem kid_labs {t : LT α} : ∀ {l : List (LT α)}, t ∈ l → ∀ x ∈ labs t, x ∈ labsL l
  | [], h, _, _ => nomatch h
  | u :: r, h, x, hx => by
    rw [labsL_cons]
    rcases List.mem_cons.1 h with rfl | h
    · exact List.mem_append_left _ hx
    · exact List.mem_append_right _ (kid_labs h x hx)
mutual
theorem labs_length : ∀ t : LT α, (labs t).length = t.count
  | .mk a k n u ty m g ks => by rw [labs_mk, List.length_cons, labsL_length ks, count]
theorem labsL_length : ∀ l : List (LT α), (labsL l).length = countL l
  | [] => by rw [labsL_nil]; rfl
  | t :: r => by rw [labsL_cons, List.length_append, labs_length t, labsL_length r, countL]
end
mutual
theorem labs_map (h : α → β) : ∀ t : LT α, labs (map h t) = (labs t).map h
  | .mk a k n u ty m g ks => by rw [map, labs_mk, labs_mk, List.map_cons, labsL_map h ks]
theorem labsL_map (h : α → β) : ∀ l : List (LT α), labsL (mapL h l) = (labsL l).map h
  | [] => by rw [mapL, labsL_nil]; rfl
  | t :: r => by rw [mapL, labsL_cons, labsL_cons, List.map_append, labs_map h t, labsL_map h r]
end
mutual
theorem map_same (f h : α → β) : ∀ t : LT α, (∀ x ∈ labs t, f x = h x) → map f t = map h t
  | .mk a k n u ty m g ks, e => by
    rw [labs_mk] at e
    rw [map, map, e a (List.mem_cons_self ..), mapL_same f h ks fun x hx => e x (List.mem_cons_of_mem _ hx)]
theorem mapL_same (f h : α → β) : ∀ l : List (LT α), (∀ x ∈ labsL l, f x = h x) → mapL f l = mapL h l
  | [], _ => by rw [mapL, mapL]
  | t :: r, e => by
    rw [labsL_cons] at e
    rw [mapL, mapL, map_same f h t fun x hx => e x (List.mem_append_left _ hx), mapL_same f h r fun x hx => e x (List.mem_append_right _ hx)]
end
theorem map_lab (h : α → β) (t : LT α) : (map h t).lab = h t.lab := by
  obtain ⟨a, k, n, u, ty, m, g, ks⟩ := t
  rw [map]
  rfl
theorem map_kind (h : α → β) (t : LT α) : (map h t).kind = t.kind := by
  obtain ⟨a, k, n, u, ty, m, g, ks⟩ := t
  rw [map]
  rfl
theorem map_name (h : α → β) (t : LT α) : (map h t).name = t.name := by
  obtain ⟨a, k, n, u, ty, m, g, ks⟩ := t
  rw [map]
  rfl
theorem map_kids (h : α → β) (t : LT α) : (map h t).kids = mapL h t.kids := by
  obtain ⟨a, k, n, u, ty, m, g, ks⟩ := t
  rw [map]
  rfl
theorem mapL_eq (h : α → β) : ∀ l : List (LT α), mapL h l = l.map (map h)
  | [] => by rw [mapL]; rfl
  | t :: r => by rw [mapL, mapL_eq h r]; rfl
mutual
theorem bare_map (h : α → β) : ∀ t : LT α, (map h t).bare = t.bare
  | .mk a k n u ty m g ks => by rw [map, bare, bare, bareL_map h ks]
theorem bareL_map (h : α → β) : ∀ l : List (LT α), bareL (mapL h l) = bareL l
  | [] => by rw [mapL, bareL, bareL]
  | t :: r => by rw [mapL, bareL, bareL, bare_map h t, bareL_map h r]
end
mutual
theorem count_bare : ∀ t : LT α, t.bare.count = t.count
  | .mk a k n u ty m g ks => by rw [bare, Tr.count, count, countL_bare ks]
theorem countL_bare : ∀ l : List (LT α), Tr.countL (bareL l) = countL l
  | [] => by rw [bareL, Tr.countL, countL]
  | t :: r => by rw [bareL, Tr.countL, countL, count_bare t, countL_bare r]
end
end LT
namespace Nm
mutual
/-- a tree with its numbers, from n on -/
def tag (n : Nat) : Tr → LT Nat
  | .mk k nm u ty m g ks => .mk n k nm u ty m g (tagL (n + 1) ks)
def tagL (n : Nat) : List Tr → List (LT Nat)
  | [] => []
  | t :: r => tag n t :: tagL (n + t.count) r
end
mutual
theorem tag_labs : ∀ (t : Tr) (n : Nat), LT.labs (tag n t) = List.range' n t.count
  | .mk k nm u ty m g ks, n => by rw [tag, LT.labs_mk, tagL_labs ks, Tr.count, List.range'_succ]
theorem tagL_labs : ∀ (l : List Tr) (n : Nat), LT.labsL (tagL n l) = List.range' n (Tr.countL l)
  | [], n => by rw [tagL, LT.labsL_nil, Tr.countL]; rfl
  | t :: r, n => by rw [tagL, LT.labsL_cons, tag_labs t, tagL_labs r, Tr.countL, List.range'_append_1]
end
mutual
theorem tag_bare : ∀ (t : Tr) (n : Nat), (tag n t).bare = t
  | .mk k nm u ty m g ks, n => by rw [tag, LT.bare, tagL_bare ks]
theorem tagL_bare : ∀ (l : List Tr) (n : Nat), LT.bareL (tagL n l) = l
  | [], n => by rw [tagL, LT.bareL]
  | t :: r, n => by rw [tagL, LT.bareL, tag_bare t, tagL_bare r]
end
variable {α : Type} [DecidableEq α]
mutual
theorem numT_next : ∀ (t : LT α) (I : α → Nat) (n : Nat), (numT I n t).2 = n + t.count
  | .mk a k nm u ty m g ks, I, n => by rw [numT, numL_next ks, LT.count]; omega
theorem numL_next : ∀ (l : List (LT α)) (I : α → Nat) (n : Nat), (numL I n l).2 = n + LT.countL l
  | [], I, n => by rw [numL, LT.countL]; rfl
  | t :: r, I, n => by rw [numL, numL_next r, numT_next t, LT.countL]; omega
end
mutual
theorem numT_out : ∀ (t : LT α) (I : α → Nat) (n : Nat) (x : α), x ∉ LT.labs t → (numT I n t).1 x = I x
  | .mk a k nm u ty m g ks, I, n, x, h => by
    rw [LT.labs_mk] at h
    rw [numT, numL_out ks _ _ x fun hx => h (List.mem_cons_of_mem _ hx)]
    exact updF_other _ _ fun e => h (by rw [e]; exact List.mem_cons_self ..)
theorem numL_out : ∀ (l : List (LT α)) (I : α → Nat) (n : Nat) (x : α), x ∉ LT.labsL l → (numL I n l).1 x = I x
  | [], I, n, x, _ => by rw [numL]
  | t :: r, I, n, x, h => by
    rw [LT.labsL_cons] at h
    rw [numL, numL_out r _ _ x fun hx => h (List.mem_append_right _ hx), numT_out t _ _ x fun hx => h (List.mem_append_left _ hx)]
end
mutual
/-- with labels that are all apart: the numbers are the tree's own -/
theorem numT_tag : ∀ (t : LT α) (I : α → Nat) (n : Nat), (LT.labs t).Nodup → LT.map (numT I n t).1 t = tag n t.bare
  | .mk a k nm u ty m g ks, I, n, h => by
    rw [LT.labs_mk, List.nodup_cons] at h
    rw [numT, LT.map, LT.bare, tag, numL_tag ks _ _ h.2, numL_out ks _ _ a h.1, updF_same]
theorem numL_tag : ∀ (l : List (LT α)) (I : α → Nat) (n : Nat), (LT.labsL l).Nodup → LT.mapL (numL I n l).1 l = tagL n (LT.bareL l)
  | [], I, n, _ => by rw [numL, LT.mapL, LT.bareL, tagL]
  | t :: r, I, n, h => by
    rw [LT.labsL_cons, List.nodup_append] at h
    have e1 : LT.map (numL (numT I n t).1 (numT I n t).2 r).1 t = LT.map (numT I n t).1 t := LT.map_same _ _ t fun x hx => numL_out r _ _ x fun hr => h.2.2 x hx x hr rfl
    rw [numL, LT.mapL, e1, LT.bareL, tagL, numT_tag t I n h.1, numL_tag r _ _ h.2.1, numT_next, LT.count_bare]
end
mutual
theorem numT_le : ∀ (t : LT α) (I : α → Nat) (n M : Nat), (∀ x, I x ≤ M) → n + t.count ≤ M + 1 → ∀ x, (numT I n t).1 x ≤ M
  | .mk a k nm u ty m g ks, I, n, M, h, hn => by
    rw [LT.count] at hn
    rw [numT]
    refine numL_le ks _ _ M (fun x => ?_) (by omega)
    unfold updF
    split
    · omega
    · exact h x
theorem numL_le : ∀ (l : List (LT α)) (I : α → Nat) (n M : Nat), (∀ x, I x ≤ M) → n + LT.countL l ≤ M + 1 → ∀ x, (numL I n l).1 x ≤ M
  | [], I, n, M, h, _ => by rw [numL]; exact h
  | t :: r, I, n, M, h, hn => by
    rw [LT.countL] at hn
    rw [numL]
    refine numL_le r _ _ M (numT_le t I n M h (by omega)) (by rw [numT_next]; omega)
end
end Nm
end Go.Proofs.YtljdphpbalioaaaGreatDoor
