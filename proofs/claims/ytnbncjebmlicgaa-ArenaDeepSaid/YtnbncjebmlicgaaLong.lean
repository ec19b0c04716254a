/- Rows of long elements of one's own: stored into, read from; objects by their footprints. No program is in sight. -/
import Derived.Test.YtnbncjebmlicgaaApp
import Derived.Deep.MidRow
import Derived.Deep.WholeRow
import Derived.Laws.OwnMore
namespace Go.Proofs.Ytnbncjebmlicgaa
open Go.RowKit

theorem cell_row {w : World} {g i T : Nat} {cs : Array Value} {fr : Nat × Nat} (h : w.heap[g]? = some (.cells cs T fr)) : w.cell? ⟨g, i, none⟩ = cs[i]? := by
  simp [World.cell?, h]

theorem Bytes.only {w w' : World} {S : Nat → Prop} {u : Value} {l : List UInt8} (h : Bytes w u l) (ho : Only w w' S) (hs : ∀ g o n c, l ≠ [] → u = .slice (some ⟨g, o, none⟩) n c → ¬ S g) : Bytes w' u l := by
  obtain ⟨a, c, rfl, h1, h2, h3, h4⟩ := h
  refine ⟨a, c, rfl, h1, h2, h3, ?_⟩
  by_cases hl : l = []
  · exact .inl hl
  · rcases h4 with h4 | ⟨g, o, rfl, h4⟩
    · exact .inl h4
    · refine .inr ⟨g, o, rfl, fun j x hx => ?_⟩
      obtain ⟨y, hy, hr⟩ := h4 j x hx
      exact ⟨y, (World.cell?_of_block (a := ⟨g, o + j, none⟩) (ho.block g (block_lt_of_cell hy) (hs _ _ _ _ hl rfl))).trans hy, hr⟩

theorem flat_get' {α : Type} (cs : α → List Value) (n : Nat) (l : List α) (hn : ∀ x ∈ l, (cs x).length = n) : ∀ (j i : Nat) (x : α), l[j]? = some x → i < n → (l.flatMap cs)[j * n + i]? = (cs x)[i]? := by
  induction l with
  | nil => intro j i x h _; simp at h
  | cons y l ih =>
    intro j i x h hi
    have hy := hn y (by simp)
    rw [List.flatMap_cons]
    cases j with
    | zero =>
      simp at h
      subst h
      rw [List.getElem?_append_left (by rw [hy]; omega)]
      simp
    | succ j =>
      rw [List.getElem?_append_right (by rw [hy, Nat.succ_mul]; omega), hy, show (j + 1) * n + i - n = j * n + i by rw [Nat.succ_mul]; omega]
      exact ih (fun x hx => hn x (by simp [hx])) j i x (by simpa using h) hi

theorem flat_length' {α : Type} (cs : α → List Value) (n : Nat) (l : List α) (hn : ∀ x ∈ l, (cs x).length = n) : (l.flatMap cs).length = l.length * n := by
  induction l with
  | nil => simp
  | cons y l ih => rw [List.flatMap_cons, List.length_append, hn y (by simp), ih (fun x hx => hn x (by simp [hx])), List.length_cons, Nat.succ_mul]; omega

/-- values set one by one -/
def setAll (xs : List Value) : Nat → List Value → List Value
  | _, [] => xs
  | o, v :: r => setAll (xs.set o v) (o + 1) r

theorem setAll_length (cs : List Value) : ∀ (xs : List Value) (o : Nat), (setAll xs o cs).length = xs.length := by
  induction cs with
  | nil => intro xs o; rfl
  | cons v r ih => intro xs o; rw [setAll, ih, List.length_set]

theorem setAll_get (cs : List Value) : ∀ (xs : List Value) (o k : Nat), o + cs.length ≤ xs.length → (setAll xs o cs)[k]? = if o ≤ k ∧ k < o + cs.length then cs[k - o]? else xs[k]? := by
  induction cs with
  | nil => intro xs o k _; rw [setAll, if_neg (by simp only [List.length_nil]; omega)]
  | cons v r ih =>
    intro xs o k h
    rw [List.length_cons] at h
    rw [setAll, ih _ _ _ (by rw [List.length_set]; omega), List.length_cons]
    by_cases h1 : o + 1 ≤ k ∧ k < o + 1 + r.length
    · rw [if_pos h1, if_pos (by omega), show k - o = (k - (o + 1)) + 1 by omega, List.getElem?_cons_succ]
    · rw [if_neg h1]
      by_cases h2 : k = o
      · subst h2
        rw [if_pos (by omega), Nat.sub_self, List.getElem?_cons_zero, List.getElem?_set_self (by omega)]
      · rw [if_neg (by omega), List.getElem?_set_ne (by omega)]

theorem setAll_flat {α : Type} (cs : α → List Value) (n : Nat) (l : List α) (hn : ∀ x ∈ l, (cs x).length = n) (i : Nat) (y : α) (hi : i < l.length) (hy : (cs y).length = n) :
    setAll (l.flatMap cs) (i * n) (cs y) = (l.set i y).flatMap cs := by
  have hn2 : ∀ x ∈ l.set i y, (cs x).length = n := fun x hx => by
    rcases List.mem_or_eq_of_mem_set hx with h | h
    · exact hn x h
    · rw [h]; exact hy
  have hlen := flat_length' cs n l hn
  have hlen2 := flat_length' cs n (l.set i y) hn2
  rw [List.length_set] at hlen2
  have hin : i * n + n ≤ l.length * n := by rw [← Nat.succ_mul]; exact Nat.mul_le_mul_right n hi
  apply List.ext_getElem?
  intro k
  rw [setAll_get _ _ _ _ (by rw [hlen, hy]; exact hin), hy]
  by_cases hk : k < l.length * n
  · have hn0 : 0 < n := by
      rcases Nat.eq_zero_or_pos n with h | h
      · subst h; simp at hk
      · exact h
    have hdm := Nat.div_add_mod k n
    have hmod := Nat.mod_lt k hn0
    have hdiv : k / n < l.length := (Nat.div_lt_iff_lt_mul hn0).2 hk
    have hkk : k = k / n * n + k % n := by rw [Nat.mul_comm]; omega
    generalize k / n = j at *
    generalize k % n = m at *
    subst hkk
    obtain ⟨x, hx⟩ : ∃ x, l[j]? = some x := ⟨_, List.getElem?_eq_getElem hdiv⟩
    by_cases hji : j = i
    · subst hji
      rw [if_pos (by omega), flat_get' cs n _ hn2 j m y (by rw [List.getElem?_set_self hi]) hmod, Nat.add_sub_cancel_left]
    · rw [flat_get' cs n _ hn2 j m x (by rw [List.getElem?_set_ne (fun h => hji h.symm)]; exact hx) hmod, flat_get' cs n _ hn j m x hx hmod, if_neg]
      rintro ⟨h1, h2⟩
      rcases Nat.lt_or_gt_of_ne hji with h | h
      · have : (j + 1) * n ≤ i * n := Nat.mul_le_mul_right n h
        rw [Nat.succ_mul] at this; omega
      · have : (i + 1) * n ≤ j * n := Nat.mul_le_mul_right n h
        rw [Nat.succ_mul] at this; omega
  · rw [if_neg (by omega), List.getElem?_eq_none (by omega), List.getElem?_eq_none (by omega)]

theorem own_setCells {base e size n g c : Nat} (cs : List Value) : ∀ {w : World} {xs : List Value} (o : Nat), w.ownsRow base e size (.slice (some ⟨g, 0, none⟩) n c) n xs →
    (w.setCells g o cs).ownsRow base e size (.slice (some ⟨g, 0, none⟩) n c) n (setAll xs o cs) := by
  induction cs with
  | nil => intro w xs o h; exact h
  | cons v r ih => intro w xs o h; exact ih (o + 1) (World.ownsRow.stored h o v).1

theorem only_setCells (g : Nat) (cs : List Value) : ∀ (w : World) (o : Nat), Only w (w.setCells g o cs) (fun k => k = g) := by
  induction cs with
  | nil => intro w o; exact Only.refl _ _
  | cons v r ih => intro w o; exact (Only.setCell w ⟨g, o, none⟩ v).trans (ih _ _) fun i _ h => h

/-- the element at i of a row of one's own -/
theorem own_range {α : Type} {cs : α → List Value} {n : Nat} {w : World} {base e c g : Nat} {l : List α} (hn : ∀ x ∈ l, (cs x).length = n)
    (h : w.ownsRow base e n (.slice (some ⟨g, 0, none⟩) l.length c) l.length (l.flatMap cs)) (i : Nat) (x : α) (hx : l[i]? = some x) : w.rangeAt g (i * n) (cs x) := by
  intro j v hv
  have hj : j < n := by have := (List.getElem?_eq_some_iff.1 hv).1; rw [hn x (List.mem_of_getElem? hx)] at this; exact this
  have hi : i < l.length := (List.getElem?_eq_some_iff.1 hx).1
  have hin : i * n + n ≤ l.length * n := by rw [← Nat.succ_mul]; exact Nat.mul_le_mul_right n hi
  rw [World.ownsRow.cellAt h (i * n + j) (by omega), flat_get' cs n l hn i j x hx hj]
  exact hv

theorem own_there {w : World} {base e size c g n : Nat} {xs : List Value} (h : w.ownsRow base e size (.slice (some ⟨g, 0, none⟩) n c) n xs) (o m : Nat) (hm : o + m ≤ n * size) : w.there g o m := by
  intro j hj
  have hl := h.1
  refine ⟨?_, World.ownsRow.frozenAt h _⟩
  rw [World.ownsRow.cellAt h (o + j) (by omega), List.getElem?_eq_getElem (by omega)]
  rfl

theorem own_only {e : TypeId} {base size n : Nat} {w w' : World} {S : Nat → Prop} {v : Value} {xs : List Value} (h : w.ownsRow base e size v n xs) (ho : Only w w' S) (hs : ∀ k, v.ownBlock = some k → ¬ S k) : w'.ownsRow base e size v n xs := by
  refine ⟨h.1, ?_⟩
  rcases h.2 with h2 | ⟨g, cap, cur, h1, hb, hg, hr⟩
  · exact .inl h2
  · exact .inr ⟨g, cap, cur, h1, hb, (ho.block g (Array.getElem?_eq_some_iff.1 hg).1 (hs g (by rw [h1]; rfl))).trans hg, hr⟩

theorem own_block {e : TypeId} {base size n : Nat} {w : World} {v : Value} {xs : List Value} (h : w.ownsRow base e size v n xs) {g : Nat} (hg : v.ownBlock = some g) : ∃ cur, w.heap[g]? = some (.cells cur e (0, 0)) := by
  rcases h.2 with ⟨rfl, _⟩ | ⟨g', c, cur, rfl, _, hg', _⟩
  · cases hg
  · simp [Value.ownBlock] at hg
    subst hg
    exact ⟨cur, hg'⟩

theorem own_ne {e base size n T : Nat} {w : World} {v : Value} {xs : List Value} (h : w.ownsRow base e size v n xs) {g : Nat} {cs : Array Value} {fr : Nat × Nat} (hg : w.heap[g]? = some (.cells cs T fr)) (hT : T ≠ e) : v.ownBlock ≠ some g := by
  intro hb
  obtain ⟨cur, hc⟩ := own_block h hb
  rw [hg] at hc
  cases hc
  exact hT rfl

/-- what an object's doing may turn, and where it lies then -/
structure Moved (w w' : World) (F F' : Nat → Prop) : Prop where
  only : Only w w' F
  fresh : ∀ k, F' k → F k ∨ w.heap.size ≤ k

theorem Moved.refl (w : World) (F : Nat → Prop) : Moved w w F F := ⟨Only.refl _ _, fun _ h => .inl h⟩
theorem Moved.trans {a b c : World} {F G H : Nat → Prop} (h : Moved a b F G) (k : Moved b c G H) : Moved a c F H := by
  refine ⟨h.only.trans k.only (fun i hi hg => ?_), fun i hi => ?_⟩
  · rcases h.fresh i hg with h | h
    · exact h
    · omega
  · rcases k.fresh i hi with h1 | h1
    · exact h.fresh i h1
    · exact .inr (Nat.le_trans h.only.size h1)
theorem Moved.of_below {w w' : World} (F : Nat → Prop) (h : Below w.heap.size w w') : Moved w w' F F := ⟨Only.of_below h F, fun _ h => .inl h⟩
theorem Moved.below {w w' : World} {F F' : Nat → Prop} {B : Nat} (h : Moved w w' F F') (hB : B ≤ w.heap.size) (hF : ∀ k, F k → B ≤ k) : Below B w w' := h.only.below B hB fun i hi hf => by have := hF i hf; omega
theorem Moved.ge {w w' : World} {F F' : Nat → Prop} {B : Nat} (h : Moved w w' F F') (hB : B ≤ w.heap.size) (hF : ∀ k, F k → B ≤ k) : ∀ k, F' k → B ≤ k := fun k hk => by
  rcases h.fresh k hk with h | h
  · exact hF k h
  · omega
end Go.Proofs.Ytnbncjebmlicgaa
