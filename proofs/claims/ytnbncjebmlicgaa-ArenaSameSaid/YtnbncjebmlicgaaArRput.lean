/- The reference's Put: rising: plainly, and the walk. -/
import Derived.Test.YtnbncjebmlicgaaArFew
namespace Go.Proofs.Ytnbncjebmlicgaa
open Go.RowKit

section
variable {α : Type}
def putD (l : List (Nat × α)) (x : Nat) : Bool := l.any fun p => decide (x < p.1)
def putO (l : List (Nat × α)) (x : Nat) (n : α) : List (Nat × α) := if putD l x = true then insA (x, n) (delA l x) else delA l x
theorem insA_last {m : List (Nat × α)} {x r : Nat × α} (h : ∀ p ∈ m, ¬ x.1 < p.1) (hr : x.1 < r.1) : insA x (m ++ [r]) = m ++ [x, r] := by
  induction m with
  | nil => show insA x [r] = [x, r]; unfold insA; rw [if_pos hr]
  | cons y s ih =>
    show insA x (y :: (s ++ [r])) = y :: (s ++ [x, r])
    unfold insA
    rw [if_neg (h y (List.mem_cons_self ..)), ih fun p hp => h p (List.mem_cons_of_mem _ hp)]
theorem insA_end {m : List (Nat × α)} {x : Nat × α} (h : ∀ p ∈ m, ¬ x.1 < p.1) : insA x m = m ++ [x] := by
  induction m with
  | nil => rfl
  | cons y s ih =>
    show insA x (y :: s) = y :: (s ++ [x])
    unfold insA
    rw [if_neg (h y (List.mem_cons_self ..)), ih fun p hp => h p (List.mem_cons_of_mem _ hp)]
theorem insA_more {m : List (Nat × α)} {x r : Nat × α} (h : ∃ p ∈ m, x.1 < p.1) : insA x (m ++ [r]) = insA x m ++ [r] := by
  induction m with
  | nil => obtain ⟨p, hp, -⟩ := h; cases hp
  | cons y s ih =>
    show insA x (y :: (s ++ [r])) = insA x (y :: s) ++ [r]
    unfold insA
    by_cases hy : x.1 < y.1
    · rw [if_pos hy, if_pos hy]; rfl
    · rw [if_neg hy, if_neg hy, ih]
      · rfl
      · obtain ⟨p, hp, hx⟩ := h
        rcases List.mem_cons.1 hp with rfl | hp
        · exact absurd hx hy
        · exact ⟨p, hp, hx⟩
theorem delA_app (l : List (Nat × α)) (r : Nat × α) (x : Nat) : delA (l ++ [r]) x = delA l x ++ (if r.1 = x then [] else [r]) := by
  unfold delA
  rw [List.filter_append, List.filter_cons]
  by_cases h : r.1 = x
  · rw [if_neg (by simp [h]), if_pos h]; rfl
  · rw [if_pos (by simpa using h), if_neg h]; rfl
theorem putD_app (l : List (Nat × α)) (r : Nat × α) (x : Nat) : putD (l ++ [r]) x = (putD l x || decide (x < r.1)) := by
  unfold putD
  rw [List.any_append]
  simp
theorem putD_del {l : List (Nat × α)} {x : Nat} (h : putD l x = true) : ∃ p ∈ delA l x, x < p.1 := by
  obtain ⟨p, hp, hx⟩ := List.any_eq_true.1 h
  have hx' : x < p.1 := by simpa using hx
  exact ⟨p, List.mem_filter.2 ⟨hp, by simp; omega⟩, hx'⟩
theorem putD_not {l : List (Nat × α)} {x : Nat} (h : putD l x = false) : ∀ p ∈ delA l x, ¬ x < p.1 := fun p hp hx => by
  have := List.any_eq_false.1 h p (List.mem_filter.1 hp).1
  simp at this
  omega
theorem putO_skip {l : List (Nat × α)} {r : Nat × α} {x : Nat} (n : α) (h : r.1 = x) : putD (l ++ [r]) x = putD l x ∧ putO (l ++ [r]) x n = putO l x n := by
  have h1 : putD (l ++ [r]) x = putD l x := by rw [putD_app, decide_eq_false (by omega), Bool.or_false]
  refine ⟨h1, ?_⟩
  unfold putO
  rw [h1, delA_app, if_pos h, List.append_nil]
theorem putO_in {l : List (Nat × α)} {r : Nat × α} {x : Nat} (n : α) (h : x < r.1) (hd : putD l x = false) : putD (l ++ [r]) x = true ∧ putO (l ++ [r]) x n = (putO l x n ++ [(x, n)]) ++ [r] := by
  have h1 : putD (l ++ [r]) x = true := by rw [putD_app, decide_eq_true h, Bool.or_true]
  refine ⟨h1, ?_⟩
  unfold putO
  rw [if_pos h1, if_neg (by rw [hd]; decide), delA_app, if_neg (by omega), insA_last (putD_not hd) h]
  simp
theorem putO_on {l : List (Nat × α)} {r : Nat × α} {x : Nat} (n : α) (h : r.1 ≠ x) (hd : x < r.1 → putD l x = true) (hs : r.1 < x → putD l x = false) : putD (l ++ [r]) x = putD l x ∧ putO (l ++ [r]) x n = putO l x n ++ [r] := by
  by_cases hx : x < r.1
  · have h2 := hd hx
    have h1 : putD (l ++ [r]) x = true := by rw [putD_app, h2]; rfl
    refine ⟨by rw [h1, h2], ?_⟩
    unfold putO
    rw [if_pos h1, if_pos h2, delA_app, if_neg h, insA_more (putD_del h2)]
  · have h2 := hs (by omega)
    have h1 : putD (l ++ [r]) x = false := by rw [putD_app, h2, decide_eq_false hx]; rfl
    refine ⟨by rw [h1, h2], ?_⟩
    unfold putO
    rw [if_neg (by rw [h1]; decide), if_neg (by rw [h2]; decide), delA_app, if_neg h]
theorem putO_done {l : List (Nat × α)} {x : Nat} (n : α) (h : putD l x = true) : putO l x n = putA l x n := by unfold putO putA; rw [if_pos h]
theorem putO_last {l : List (Nat × α)} {x : Nat} (n : α) (h : putD l x = false) : putO l x n ++ [(x, n)] = putA l x n := by
  unfold putO putA
  rw [if_neg (by rw [h]; decide), insA_end (putD_not h)]
theorem putO_len (l : List (Nat × α)) (x : Nat) (n : α) : (putO l x n).length ≤ l.length + 1 := by
  have : (delA l x).length ≤ l.length := List.length_filter_le _ _
  unfold putO
  split
  · rw [length_insA]; omega
  · omega
theorem asc_before {l : List (Nat × α)} {r : Nat × α} {s : List (Nat × α)} (h : AscA (l ++ r :: s)) {x : Nat} (hx : r.1 < x) : putD l x = false := by
  refine List.any_eq_false.2 fun p hp => ?_
  have := (List.pairwise_append.1 h.1).2.2 p hp r (List.mem_cons_self ..)
  simp
  omega
end

theorem rows_more {base : Nat} {w w' : World} {v v' : Value} {rs : List ((Nat × Nd) × Value)} {p : Nat × Nd} {kv : Value} (h2 : w.ownsRow base 80 7 v rs.length (rowsC rs)) (h3 : ∀ q ∈ rs, OwnIds 0 w q.2 q.1.2.kids ∧ q.1.2.Ok) (hk : OwnIds 0 w kv p.2.kids) (ok : p.2.Ok)
    (hg : w.grownBy w' v.ownBlock) (ho : w'.ownsRow base 80 7 v' (rs.length + 1) (rowsC rs ++ rowC p kv)) : RowsX base w' v' (rs.map (·.1) ++ [p]) := by
  have hno : ∀ k, v.ownBlock = some k → ∀ cs fr, w.heap[k]? ≠ some (.cells cs 26 fr) := fun k hkb cs fr e => by
    rcases h2.2 with ⟨rfl, -⟩ | ⟨g, cap, cur, rfl, hb, hgg, h4⟩
    · cases hkb
    · cases hkb
      rw [hgg] at e
      cases e
  have hon := Only.of_grown hg
  refine ⟨rs ++ [(p, kv)], by rw [List.map_append]; rfl, ?_, fun q hq => ?_⟩
  · rw [rowsC_app, List.length_append, List.length_map]
    have e : rowsC [(p, kv)] = rowC p kv := by unfold rowsC; rw [List.flatMap_cons, List.flatMap_nil, List.append_nil]
    rw [e]
    exact ho
  · rcases List.mem_append.1 hq with hq | hq
    · exact ⟨(h3 q hq).1.only hon hno, (h3 q hq).2⟩
    · rw [List.mem_singleton.1 hq]
      exact ⟨hk.only hon hno, ok⟩
theorem lies_seven (w : World) (v0 v1 v2 v3 v4 v5 v6 : Value) (t : TypeId) : Lies (w.alloc (.cells #[v0, v1, v2, v3, v4, v5, v6] t)) (some ⟨w.heap.size, 0, none⟩) [v0, v1, v2, v3, v4, v5, v6] :=
  .inr ⟨_, _, rfl, fun j u hu => by
    have := World.cell?_alloc_new w #[v0, v1, v2, v3, v4, v5, v6] t j
    rw [Nat.zero_add, this]
    simpa using hu⟩
theorem rowsC_one (rs : List ((Nat × Nd) × Value)) (h : ∀ q ∈ rs, ∃ a n c, q.2 = .slice a n c) : ∀ u ∈ rowsC rs, u.oneCell' = true := fun u hu => by
  unfold rowsC at hu
  obtain ⟨q, hq, hu⟩ := List.mem_flatMap.1 hu
  obtain ⟨a, n, c, e⟩ := h q hq
  unfold rowC at hu
  rw [e] at hu
  simp at hu
  rcases hu with rfl | rfl | rfl | rfl | rfl | rfl | rfl <;> rfl

/-- seven cells that hold a row -/
def Row7 (w : World) (g : Nat) (p : Nat × Nd) (kv : Value) : Prop := w.heap[g]? = some (.cells #[.int .u64 p.1, .int .u8 p.2.kind, .string p.2.name, .int .i64 p.2.num, .int .u8 p.2.typ, .int .u64 p.2.ref, kv] 80 (0, 0))
theorem Row7.lt {w : World} {g : Nat} {p : Nat × Nd} {kv : Value} (h : Row7 w g p kv) : g < w.heap.size := (Array.getElem?_eq_some_iff.1 h).1
theorem Row7.below {w w' : World} {g : Nat} {p : Nat × Nd} {kv : Value} (h : Row7 w g p kv) (hb : Below w.heap.size w w') : Row7 w' g p kv := (hb.block g h.lt).trans h
theorem Row7.cells {w : World} {g : Nat} {p : Nat × Nd} {kv : Value} (h : Row7 w g p kv) : w.cell? ⟨g, 0, none⟩ = some (.int .u64 p.1) ∧ w.cell? ⟨g, 1, none⟩ = some (.int .u8 p.2.kind) ∧ w.cell? ⟨g, 2, none⟩ = some (.string p.2.name) ∧ w.cell? ⟨g, 3, none⟩ = some (.int .i64 p.2.num) ∧ w.cell? ⟨g, 4, none⟩ = some (.int .u8 p.2.typ) ∧ w.cell? ⟨g, 5, none⟩ = some (.int .u64 p.2.ref) ∧ w.cell? ⟨g, 6, none⟩ = some kv :=
  ⟨cell_of_row w g 0 _ _ _ h, cell_of_row w g 1 _ _ _ h, cell_of_row w g 2 _ _ _ h, cell_of_row w g 3 _ _ _ h, cell_of_row w g 4 _ _ _ h, cell_of_row w g 5 _ _ _ h, cell_of_row w g 6 _ _ _ h⟩
theorem Row7.kept {w w' : World} {g : Nat} {p : Nat × Nd} {kv : Value} {row : Option Nat} (h : Row7 w g p kv) (hg : w.grownBy w' row) (hne : ∀ q, row = some q → q ≠ g) : Row7 w' g p kv := (hg.block g h.lt (fun e => hne g e.symm rfl)).trans h
theorem OwnIds.kept {w w' : World} {v u : Value} {l : List Nat} {base n : Nat} {xs : List Value} (h : OwnIds 0 w v l) (ho : w.ownsRow base 80 7 u n xs) (hg : w.grownBy w' u.ownBlock) : OwnIds 0 w' v l :=
  h.only (Only.of_grown hg) fun k hkb cs fr e => by
    rcases ho.2 with ⟨rfl, -⟩ | ⟨g, cap, cur, rfl, hb, hgg, h4⟩
    · cases hkb
    · cases hkb
      rw [hgg] at e
      cases e
end Go.Proofs.Ytnbncjebmlicgaa
