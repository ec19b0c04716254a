/- Slices of structs: read, opened, one's own. No program is in sight. -/
import Derived.Test.YtnbncjebmlicgaaIn
import Derived.Deep.Slices
import Derived.Deep.Fields
import Derived.ChangeSame
namespace Go.Proofs.Ytnbncjebmlicgaa
open Go.RowKit Go.Deep Go.ChangeShapes Go.WideShapes

/-- a slice of structs, each of n cells, each of which stands for one of l -/
def Recs {α : Type} (n : Nat) (R : World → List Value → α → Prop) (w : World) (v : Value) (l : List α) : Prop :=
  ∃ a c, v = .slice a l.length c ∧ l.length ≤ maxLen ∧ l.length ≤ c ∧ (a = none → c = 0) ∧ (l = [] ∨ ∃ g o, a = some ⟨g, o, none⟩ ∧ ∀ j x, l[j]? = some x → ∃ us : List Value, us.length = n ∧ w.rangeAt g (o + j * n) us ∧ R w us x)

theorem Recs.mono {α : Type} {n : Nat} {R S : World → List Value → α → Prop} {w w' : World} {v : Value} {l : List α} (hn : 0 < n) (h : Recs n R w v l) (hb : Below w.heap.size w w')
    (hR : ∀ us x, x ∈ l → R w us x → S w' us x) : Recs n S w' v l := by
  obtain ⟨a, c, rfl, hm, hc, hz, h⟩ := h
  refine ⟨a, c, rfl, hm, hc, hz, ?_⟩
  rcases h with h | ⟨g, o, ha, h⟩
  · exact .inl h
  · refine .inr ⟨g, o, ha, fun j x hx => ?_⟩
    obtain ⟨us, hl, hu, hr⟩ := h j x hx
    have h0 := hu 0 us[0] (List.getElem?_eq_getElem (by omega))
    exact ⟨us, hl, rangeAt_keep hu (block_lt_of_cell h0) hb, hR us x (List.mem_of_getElem? hx) hr⟩

/-- a slice of one-cell-field structs that came in -/
theorem recs_of_reads {H : Type} {enc : TypeId × Value → H} {P : Program} {w : World} {α : Type} {R : World → List Value → α → Prop} {t e : TypeId} {fs : Array Field} {fuel : Nat} {v : Value} {x : DataW H × List MemPlace}
    (ht : P.underlying t = some (.slice e)) (he : P.underlying e = some (.struct fs)) (hone : oneCellFields P fs = true) (hC : P.cellsOf e = fs.size) (hpos : 0 < fs.size) (h : Reads enc P w fuel t [v] x)
    (hel : ∀ (n : Nat) (us : List Value), us.length = fs.size → (∀ (j : Nat) (f : Field), fs[j]? = some f → ∃ u y, us[j]? = some u ∧ Reads enc P w n f.type [u] y) → ∃ b : α, R w us b) (i0 : α) :
    ∃ l : List α, Recs fs.size R w v l := by
  rcases open_slice ht h with ⟨h0, _⟩ | ⟨a, len, cap, m, n, D, Pl, hcs, hb, hl, hm, hmm, hx, hi⟩
  · cases h0
    exact ⟨[], none, 0, rfl, by simp, Nat.le_refl _, fun _ => rfl, .inl rfl⟩
  · cases hcs
    simp only [if_true] at hmm
    subst hmm
    have hb : ∀ i, i < m → ∃ q : List Value × α, q.1.length = fs.size ∧ R w q.1 q.2 ∧ ∀ (j : Nat) u, q.1[j]? = some u → w.cell? (a.add (i * fs.size + j)) = some u := by
      intro i him
      obtain ⟨cs', hc, ht'⟩ := hi i him
      rw [hC] at hc
      obtain ⟨ys, n', hn', hy, hlen, hyl, hf⟩ := DataW.trod_struct he ht'
      obtain ⟨_, hcl, hat⟩ := World.cells?_some hc
      have hcl' : cs'.length = fs.size := hcl
      obtain ⟨b, hb⟩ := hel n' cs' hcl' (fun j f hj => by
        obtain ⟨ho, hk⟩ := hone_of hone j f hj
        have hjl : j < fs.size := (Array.getElem?_eq_some_iff.1 hj).1
        have h1 := hf j f hj
        rw [ho, hk] at h1
        have hone' : (cs'.drop j).take 1 = [cs'[j]'(by omega)] := by
          rw [List.drop_eq_getElem_cons (by omega)]
          rfl
        rw [hone'] at h1
        have hys : ys[j]? = some (ys[j]'(by omega)) := List.getElem?_eq_getElem (by omega)
        exact ⟨_, _, List.getElem?_eq_getElem (by omega), h1.trans hys⟩)
      refine ⟨(cs', b), hcl', hb, fun j u hu => ?_⟩
      have hjl : j < fs.size := by have := (List.getElem?_eq_some_iff.1 hu).1; simp only at this; omega
      have := hat j hjl
      rw [← Go.Deep.add_add, this]
      exact hu
    have hne : Nonempty α := ⟨i0⟩
    obtain ⟨F, hF⟩ : ∃ F : Nat → List Value × α, ∀ i, i < m → (F i).1.length = fs.size ∧ R w (F i).1 (F i).2 ∧ ∀ (j : Nat) u, (F i).1[j]? = some u → w.cell? (a.add (i * fs.size + j)) = some u := by
      refine ⟨fun i => if h : i < m then Classical.choose (hb i h) else ([], i0), fun i hi => ?_⟩
      simp only [dif_pos hi]
      exact Classical.choose_spec (hb i hi)
    have hlen : ((List.range len).map fun i => (F i).2).length = len := by simp
    refine ⟨(List.range len).map fun i => (F i).2, some a, m, by rw [hlen], by omega, by omega, fun h => (by cases h), ?_⟩
    by_cases hz : len = 0
    · left; subst hz; rfl
    · right
      obtain ⟨h1, h2, h3⟩ := hF 0 (by omega)
      have hx0 := spot_none (x := a) (by simpa [Addr.add] using h3 0 _ (List.getElem?_eq_getElem (by omega)))
      refine ⟨a.block, a.off, by rw [← hx0], fun j b hjb => ?_⟩
      have hj : j < len := by have := (List.getElem?_eq_some_iff.1 hjb).1; omega
      simp [hj] at hjb
      subst hjb
      obtain ⟨h1, h2, h3⟩ := hF j (by omega)
      refine ⟨(F j).1, h1, fun k u hu => ?_, h2⟩
      have h6 := h3 k u hu
      rw [hx0, Addr.add_mid] at h6
      rw [Nat.add_assoc]
      exact h6

theorem flat_get {α : Type} (cs : α → List Value) (n : Nat) (hn : ∀ x, (cs x).length = n) (l : List α) : ∀ (j i : Nat) (x : α), l[j]? = some x → i < n → (l.flatMap cs)[j * n + i]? = (cs x)[i]? := by
  induction l with
  | nil => intro j i x h _; simp at h
  | cons y l ih =>
    intro j i x h hi
    rw [List.flatMap_cons]
    cases j with
    | zero =>
      simp at h
      subst h
      rw [List.getElem?_append_left (by rw [hn]; omega)]
      simp
    | succ j =>
      rw [List.getElem?_append_right (by rw [hn, Nat.succ_mul]; omega), hn, show (j + 1) * n + i - n = j * n + i by rw [Nat.succ_mul]; omega]
      exact ih j i x (by simpa using h) hi

theorem flat_length {α : Type} (cs : α → List Value) (n : Nat) (hn : ∀ x, (cs x).length = n) (l : List α) : (l.flatMap cs).length = l.length * n := by
  induction l with
  | nil => simp
  | cons y l ih => rw [List.flatMap_cons, List.length_append, hn, ih, List.length_cons, Nat.succ_mul]; omega

/-- rows of one's own, read as structs -/
theorem recs_of_own {α : Type} {cs : α → List Value} {n : Nat} (hn : ∀ x, (cs x).length = n) (h0 : 0 < n) {w : World} {base : Nat} {e : TypeId} {v : Value} {l : List α} (h : w.ownsRow base e n v l.length (l.flatMap cs)) :
    Recs n (fun _ us x => us = cs x) w v l := by
  obtain ⟨a, c, rfl, hc, hm, hz, hl, _⟩ := ownsRow_lies h
  refine ⟨a, c, rfl, Nat.le_trans hc hm, hc, hz, ?_⟩
  rcases hl with hl | ⟨g, o, ha, hr⟩
  · left
    have := flat_length cs n hn l
    rw [hl] at this
    rw [List.length_nil] at this
    rcases Nat.eq_zero_or_pos l.length with h | h
    · exact List.length_eq_zero_iff.1 h
    · have := Nat.mul_pos h h0; omega
  · refine .inr ⟨g, o, ha, fun j x hx => ⟨cs x, hn x, fun i u hu => ?_, rfl⟩⟩
    have hi : i < n := by have := (List.getElem?_eq_some_iff.1 hu).1; rw [hn] at this; exact this
    have h6 := hr (j * n + i) u (by rw [flat_get cs n hn l j i x hx hi]; exact hu)
    rw [Nat.add_assoc]
    exact h6
end Go.Proofs.Ytnbncjebmlicgaa
