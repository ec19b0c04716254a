/- Rows: nodes with their IDs, as slices; few: a node that isn't too great. -/
import Derived.Test.YtnbncjebmlicgaaArSameB
import Derived.Test.YtnbncjebmlicgaaRecs
namespace Go.Proofs.Ytnbncjebmlicgaa
open Go.RowKit

/-- seven cells of a row -/
def rowC (p : Nat × Nd) (kv : Value) : List Value := [.int .u64 p.1, .int .u8 p.2.kind, .string p.2.name, .int .i64 p.2.num, .int .u8 p.2.typ, .int .u64 p.2.ref, kv]
theorem rowX : RowTy Try.prog 37 80 7 80 := RowTy.mk' (z := .agg #[.int .u64 0, .int .u8 0, .string ⟨#[]⟩, .int .i64 0, .int .u8 0, .int .u64 0, .slice none 0 0]) Try.underlying37 (by kernel_rfl) rfl (by omega)

/-- a node that came in: its kids may be many -/
structure Nd.Okw (n : Nd) : Prop where
  kind : n.kind < 256
  typ : n.typ < 256
  ref : n.ref < 18446744073709551616
  num : (Lit.int .i64 n.num).wf = true
  name : n.name.size ≤ maxLen
  ids : ∀ x ∈ n.kids, x < 18446744073709551616
/-- what comes in -/
def RowIn (w : World) (us : List Value) (p : Nat × Nd) : Prop := ∃ kv, us = rowC p kv ∧ Ids w kv p.2.kids ∧ p.2.Okw ∧ p.1 < 18446744073709551616
def RowsIn (w : World) (v : Value) (l : List (Nat × Nd)) : Prop := Recs 7 RowIn w v l
theorem RowsIn.below {w w' : World} {v : Value} {l : List (Nat × Nd)} (h : RowsIn w v l) (hb : Below w.heap.size w w') : RowsIn w' v l :=
  Recs.mono (by decide) h hb fun us a _ ⟨kv, h1, h2, h3⟩ => ⟨kv, h1, h2.below hb, h3⟩

/-- rows of the call's own -/
def rowsC (rs : List ((Nat × Nd) × Value)) : List Value := rs.flatMap fun q => rowC q.1 q.2
def RowsX (base : Nat) (w : World) (v : Value) (l : List (Nat × Nd)) : Prop :=
  ∃ rs : List ((Nat × Nd) × Value), rs.map (·.1) = l ∧ w.ownsRow base 80 7 v l.length (rowsC rs) ∧ ∀ q ∈ rs, OwnIds 0 w q.2 q.1.2.kids ∧ q.1.2.Ok

theorem rowsC_len (rs : List ((Nat × Nd) × Value)) : (rowsC rs).length = rs.length * 7 := by
  unfold rowsC
  induction rs with
  | nil => rfl
  | cons q r ih => rw [List.flatMap_cons, List.length_append, ih, List.length_cons]; show 7 + _ = _; omega
theorem rowsC_app (a c : List ((Nat × Nd) × Value)) : rowsC (a ++ c) = rowsC a ++ rowsC c := by unfold rowsC; rw [List.flatMap_append]
theorem rowsC_get (rs : List ((Nat × Nd) × Value)) (j : Nat) (q : (Nat × Nd) × Value) (hj : rs[j]? = some q) (i : Nat) (u : Value) (hi : (rowC q.1 q.2)[i]? = some u) : (rowsC rs)[j * 7 + i]? = some u := by
  induction rs generalizing j with
  | nil => cases hj
  | cons p r ih =>
    have hlen : (rowC p.1 p.2).length = 7 := rfl
    have e : rowsC (p :: r) = rowC p.1 p.2 ++ rowsC r := by unfold rowsC; rw [List.flatMap_cons]
    rw [e]
    cases j with
    | zero =>
      cases hj
      have : i < 7 := (List.getElem?_eq_some_iff.1 hi).1
      rw [List.getElem?_append_left (by rw [hlen]; omega), Nat.zero_mul, Nat.zero_add]
      exact hi
    | succ j =>
      rw [List.getElem?_append_right (by rw [hlen]; omega), hlen, show (j + 1) * 7 + i - 7 = j * 7 + i by omega]
      exact ih j hj
theorem own_kept7 {e : TypeId} {base n : Nat} {w w' : World} {v : Value} {xs : List Value} {S : Nat → Prop} (h : w.ownsRow base e 7 v n xs) (ho : Only w w' S) (hs : ∀ k, S k → ∀ cs fr, w.heap[k]? ≠ some (.cells cs e fr)) : w'.ownsRow base e 7 v n xs := by
  refine ⟨h.1, ?_⟩
  rcases h.2 with h2 | ⟨g, cap, cur, rfl, hb, hg, h3⟩
  · exact .inl h2
  · exact .inr ⟨g, cap, cur, rfl, hb, (ho.block g (Array.getElem?_eq_some_iff.1 hg).1 fun hS => hs g hS _ _ hg).trans hg, h3⟩
theorem RowsX.only {base : Nat} {w w' : World} {v : Value} {l : List (Nat × Nd)} {S : Nat → Prop} (h : RowsX base w v l) (ho : Only w w' S) (hs : ∀ k, S k → ∀ cs fr, w.heap[k]? ≠ some (.cells cs 26 fr)) (hs2 : ∀ k, S k → ∀ cs fr, w.heap[k]? ≠ some (.cells cs 80 fr)) : RowsX base w' v l := by
  obtain ⟨rs, h1, h2, h3⟩ := h
  exact ⟨rs, h1, own_kept7 h2 ho hs2, fun q hq => ⟨(h3 q hq).1.only ho hs, (h3 q hq).2⟩⟩
theorem RowsX.below {base : Nat} {w w' : World} {v : Value} {l : List (Nat × Nd)} (h : RowsX base w v l) (hb : Below w.heap.size w w') : RowsX base w' v l := h.only (Only.of_below hb fun _ => False) (fun _ h => h.elim) fun _ h => h.elim
theorem RowsX.base {base base' : Nat} {w : World} {v : Value} {l : List (Nat × Nd)} (h : RowsX base w v l) (hb : base' ≤ base) : RowsX base' w v l := by
  obtain ⟨rs, h1, h2, h3⟩ := h
  exact ⟨rs, h1, ownsRow_base h2 hb, h3⟩
theorem RowsX.slice {base : Nat} {w : World} {v : Value} {l : List (Nat × Nd)} (h : RowsX base w v l) : ∃ a c, v = .slice a l.length c := by
  obtain ⟨rs, -, h2, -⟩ := h
  obtain ⟨a, c, e, -⟩ := ownsRow_lies h2
  exact ⟨a, c, e⟩
theorem RowsX.nil (base : Nat) (w : World) : RowsX base w (.slice none 0 0) [] := ⟨[], rfl, World.ownsRow_nil _ _ _ _, fun _ hq => nomatch hq⟩
/-- a row's cells -/
theorem RowsX.cell {base : Nat} {w : World} {v : Value} {l : List (Nat × Nd)} (h : RowsX base w v l) (j : Nat) (p : Nat × Nd) (hj : l[j]? = some p) :
    ∃ g n c ka kc, v = .slice (some ⟨g, 0, none⟩) n c ∧ OwnIds 0 w (.slice ka p.2.kids.length kc) p.2.kids ∧ p.2.Ok ∧ w.cell? ⟨g, j * 7, none⟩ = some (.int .u64 p.1) ∧ w.cell? ⟨g, j * 7 + 1, none⟩ = some (.int .u8 p.2.kind) ∧ w.cell? ⟨g, j * 7 + 2, none⟩ = some (.string p.2.name) ∧
      w.cell? ⟨g, j * 7 + 3, none⟩ = some (.int .i64 p.2.num) ∧ w.cell? ⟨g, j * 7 + 4, none⟩ = some (.int .u8 p.2.typ) ∧ w.cell? ⟨g, j * 7 + 5, none⟩ = some (.int .u64 p.2.ref) ∧ w.cell? ⟨g, j * 7 + 6, none⟩ = some (.slice ka p.2.kids.length kc) := by
  obtain ⟨rs, h1, h2, h3⟩ := h
  have hq : ∃ q, rs[j]? = some q ∧ q.1 = p := by
    rw [← h1, List.getElem?_map] at hj
    cases hr : rs[j]? with
    | none => rw [hr] at hj; cases hj
    | some q => rw [hr] at hj; exact ⟨q, rfl, Option.some.inj hj⟩
  obtain ⟨q, hq, rfl⟩ := hq
  obtain ⟨hk, ok⟩ := h3 q (List.mem_of_getElem? hq)
  obtain ⟨ka, kc, hv⟩ := hk.slice
  obtain ⟨a, c, rfl, hc, hm, hn, hl, hb⟩ := ownsRow_lies h2
  have get := fun i u hi => rowsC_get rs j q hq i u hi
  rcases hl with h0 | ⟨g, o, rfl, hr⟩
  · have := get 0 _ rfl
    rw [h0] at this
    cases this
  · obtain ⟨-, -, rfl, -⟩ := hb g o none rfl
    rw [hv] at hk
    have c0 := hr _ _ (get 0 _ rfl)
    have c1 := hr _ _ (get 1 _ rfl)
    have c2 := hr _ _ (get 2 _ rfl)
    have c3 := hr _ _ (get 3 _ rfl)
    have c4 := hr _ _ (get 4 _ rfl)
    have c5 := hr _ _ (get 5 _ rfl)
    have c6 := hr _ _ (get 6 _ rfl)
    rw [Nat.zero_add] at c0 c1 c2 c3 c4 c5 c6
    rw [hv] at c6
    exact ⟨g, _, c, ka, kc, rfl, hk, ok, c0, c1, c2, c3, c4, c5, c6⟩

/-- the first bytes of a text -/
def firstOf (s : ByteArray) (k : Nat) : ByteArray := s.extract 0 (min s.size k)

set_option maxRecDepth 10000 in
theorem text_any (s : ByteArray) (k : Nat) (w : World) (hs : s.size ≤ 9223372036854775807) (hk : k ≤ 1000000) :
    Calls Try.prog 40 #[.string s, .int .i64 k] w fun e w' => e = .returned (.string (firstOf s k)) ∧ w' = w := by
  go_enter Try.func40, Try.ntmps40
  go_wp2_with (with_reducible refine wpList_min rfl _ _ _ rfl _ _ _ rfl rfl ?_; intro r hr; have hr2 : 0 ≤ r ∧ r ≤ (s.size : Int) := (by have := hr.out; split at this <;> omega); have hr3 : r.toNat = min s.size k := (by have := hr.out; split at this <;> omega))
  go_ret
  refine ⟨?_, rfl⟩
  unfold firstOf
  rw [← hr3]
  rfl
end Go.Proofs.Ytnbncjebmlicgaa
