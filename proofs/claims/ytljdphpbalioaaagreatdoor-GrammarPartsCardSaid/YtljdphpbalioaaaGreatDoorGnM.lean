/- Trees in memory, with their numbers and what they name; the namer's box. -/
import Derived.Test.YtljdphpbalioaaaGreatDoorGnP
import Derived.Test.YtljdphpbalioaaaGreatDoorGrM
import Derived.Test.YtljdphpbalioaaaGreatDoorGrU
namespace Go.Proofs.YtljdphpbalioaaaGreatDoor
open Go.RowKit

def ptrG (g : Nat) : Value := .pointer (some ⟨g, 0, none⟩)
def rowN (a : LT Nat) (r i : Nat) (nk kv : Value) : Array Value :=
  #[.int .u8 a.kind, .string (mk8 a.name), .int .i64 a.num, .int .u8 a.typ, .int .u64 r, nk, .string (mk8 a.mod), .string (mk8 a.tgt), kv, .int .u64 i]
structure NodeAt (w : World) (N0 : Nat) (I R : Nat → Nat) (K : Nat → Value) (a : LT Nat) : Prop where
  ex : ∃ kv, w.heap[a.lab]? = some (.cells (rowN a (R a.lab) (I a.lab) (K a.lab) kv) 75 (0, 0)) ∧ OwnPtrs 0 w kv (a.kids.map fun k => ptrG k.lab) ∧ ∀ q, kv.ownBlock = some q → q < N0
  lt : a.lab < N0
def MemT (w : World) (N0 : Nat) (L : List (LT Nat)) (I R : Nat → Nat) (K : Nat → Value) : Prop := ∀ a ∈ L, NodeAt w N0 I R K a
theorem MemT.only {w w' : World} {N0 : Nat} {L : List (LT Nat)} {I R : Nat → Nat} {K : Nat → Value} {S : Nat → Prop} (h : MemT w N0 L I R K) (ho : Only w w' S) (hs : ∀ k, k < N0 → ¬ S k) : MemT w' N0 L I R K := fun a ha => by
  obtain ⟨⟨kv, h1, h2, h3⟩, h4⟩ := h a ha
  exact ⟨⟨kv, (ho.block a.lab (Array.getElem?_eq_some_iff.1 h1).1 (hs _ h4)).trans h1, own_only h2 ho fun q hq => hs q (h3 q hq), h3⟩, h4⟩
theorem MemT.below {w w' : World} {N0 : Nat} {L : List (LT Nat)} {I R : Nat → Nat} {K : Nat → Value} (h : MemT w N0 L I R K) (hb : Below w.heap.size w w') : MemT w' N0 L I R K := h.only (Only.of_below hb fun _ => False) fun _ _ h => h
theorem MemT.set {w : World} {N0 : Nat} {L : List (LT Nat)} {I R I' R' : Nat → Nat} {K K' : Nat → Value} (h : MemT w N0 L I R K) {g : Nat} {cs : Array Value} (hg : w.heap[g]? = some (.cells cs 75 (0, 0))) (i : Nat) (u : Value)
    (hI : ∀ x, x ≠ g → I' x = I x ∧ R' x = R x ∧ K' x = K x) (hrow : ∀ b kv, rowN b (R' g) (I' g) (K' g) kv = (rowN b (R g) (I g) (K g) kv).setIfInBounds i u) : MemT (w.setCell ⟨g, i, none⟩ u) N0 L I' R' K' := fun a ha => by
  obtain ⟨⟨kv, h1, h2, h3⟩, h4⟩ := h a ha
  have ho : Only w (w.setCell ⟨g, i, none⟩ u) (fun k => k = g) := Only.setCell w ⟨g, i, none⟩ u
  refine ⟨⟨kv, ?_, own_only h2 ho fun q hq e => ?_, h3⟩, h4⟩
  · by_cases hag : a.lab = g
    · rw [hag] at h1 ⊢
      rw [hrow]
      exact heap_setCell_same w g i _ _ u h1
    · rw [(hI a.lab hag).1, (hI a.lab hag).2.1, (hI a.lab hag).2.2]
      exact (ho.block a.lab (Array.getElem?_eq_some_iff.1 h1).1 hag).trans h1
  · have e : q = g := e
    subst e
    exact own_ne h2 hg (by decide) hq
theorem MemT.row {w : World} {N0 : Nat} {L : List (LT Nat)} {I R : Nat → Nat} {K : Nat → Value} (h : MemT w N0 L I R K) {a : LT Nat} (ha : a ∈ L) : ∃ kv, w.heap[a.lab]? = some (.cells (rowN a (R a.lab) (I a.lab) (K a.lab) kv) 75 (0, 0)) := by
  obtain ⟨⟨kv, h1, -⟩, -⟩ := h a ha
  exact ⟨kv, h1⟩
theorem MemT.id {w : World} {N0 : Nat} {L : List (LT Nat)} {I R : Nat → Nat} {K : Nat → Value} (h : MemT w N0 L I R K) {a : LT Nat} (ha : a ∈ L) (n : Nat) : MemT (w.setCell ⟨a.lab, 9, none⟩ (.int .u64 n)) N0 L (updF I a.lab n) R K := by
  obtain ⟨kv, hg⟩ := h.row ha
  exact h.set hg 9 _ (fun x hx => ⟨updF_other _ _ hx, rfl, rfl⟩) fun b kv => by rw [updF_same]; rfl
theorem MemT.ref {w : World} {N0 : Nat} {L : List (LT Nat)} {I R : Nat → Nat} {K : Nat → Value} (h : MemT w N0 L I R K) {a : LT Nat} (ha : a ∈ L) (n : Nat) : MemT (w.setCell ⟨a.lab, 4, none⟩ (.int .u64 n)) N0 L I (updF R a.lab n) K := by
  obtain ⟨kv, hg⟩ := h.row ha
  exact h.set hg 4 _ (fun x hx => ⟨rfl, updF_other _ _ hx, rfl⟩) fun b kv => by rw [updF_same]; rfl
theorem MemT.nk {w : World} {N0 : Nat} {L : List (LT Nat)} {I R : Nat → Nat} {K : Nat → Value} (h : MemT w N0 L I R K) {a : LT Nat} (ha : a ∈ L) (v : Value) : MemT (w.setCell ⟨a.lab, 5, none⟩ v) N0 L I R (updF K a.lab v) := by
  obtain ⟨kv, hg⟩ := h.row ha
  exact h.set hg 5 _ (fun x hx => ⟨rfl, rfl, updF_other _ _ hx⟩) fun b kv => by rw [updF_same]; rfl
/-- a node's kids: the slice, and its cells -/
theorem MemT.kids {w : World} {N0 : Nat} {L : List (LT Nat)} {I R : Nat → Nat} {K : Nat → Value} (h : MemT w N0 L I R K) {a : LT Nat} (ha : a ∈ L) :
    ∃ q c, w.heap[a.lab]? = some (.cells (rowN a (R a.lab) (I a.lab) (K a.lab) (.slice q a.kids.length c)) 75 (0, 0)) ∧
      (a.kids = [] ∨ ∃ b, q = some ⟨b, 0, none⟩ ∧ b < N0 ∧ (∃ cs, w.heap[b]? = some (.cells cs 47 (0, 0))) ∧ ∀ j k, a.kids[j]? = some k → w.cell? ⟨b, j, none⟩ = some (ptrG k.lab)) := by
  obtain ⟨⟨kv, h1, h2, h3⟩, h4⟩ := h a ha
  have hlen : (a.kids.map fun k => ptrG k.lab).length = a.kids.length := List.length_map _
  obtain ⟨q, c, rfl, -, -, -, -, -⟩ := ownsRow_lies h2
  rw [hlen] at h1
  refine ⟨q, c, h1, ?_⟩
  rcases h2.2 with ⟨hn, hz⟩ | ⟨b, cap, cur, hv, hb, hg, hn, hc, hs, hx⟩
  · exact .inl (by rw [hlen] at hz; exact List.eq_nil_of_length_eq_zero hz)
  · cases hv
    refine .inr ⟨b, rfl, h3 b rfl, ⟨cur, hg⟩, fun j k hk => ?_⟩
    have h5 := h2.cells (g := b) rfl j (ptrG k.lab) (by rw [List.getElem?_map, hk]; rfl)
    rw [Addr.add_mid, Nat.zero_add] at h5
    exact h5

/-- the namer's box -/
def BoxM (w : World) (gm : Nat) (ga : Value) (n : Nat) (mf mm cv uv sv : Value) : Prop := w.heap[gm]? = some (.cells #[ga, .int .u64 n, mf, mm, cv, uv, sv] 56 (0, 0))
theorem BoxM.only {w w' : World} {gm n : Nat} {ga mf mm cv uv sv : Value} {S : Nat → Prop} (h : BoxM w gm ga n mf mm cv uv sv) (ho : Only w w' S) (hs : ¬ S gm) : BoxM w' gm ga n mf mm cv uv sv := (ho.block gm (Array.getElem?_eq_some_iff.1 h).1 hs).trans h
/-- the blocks of a list of nodes -/
def Lb (L : List (LT Nat)) (k : Nat) : Prop := ∃ a ∈ L, a.lab = k
theorem MemT.lb {w : World} {N0 : Nat} {L : List (LT Nat)} {I R : Nat → Nat} {K : Nat → Value} (h : MemT w N0 L I R K) {k : Nat} (hk : Lb L k) : k < N0 := by
  obtain ⟨a, ha, rfl⟩ := hk
  exact (h a ha).lt
namespace LT
mutual
theorem nodes_self {α : Type} : ∀ (t : LT α), t ∈ t.nodes
  | .mk _ _ _ _ _ _ _ _ => by unfold nodes; exact List.mem_cons_self ..
end
theorem nodesL_mem {α : Type} {k x : LT α} : ∀ {l : List (LT α)}, k ∈ l → x ∈ k.nodes → x ∈ nodesL l
  | t :: r, hk, hx => by
    unfold nodesL
    rcases List.mem_cons.1 hk with rfl | hk
    · exact List.mem_append_left _ hx
    · exact List.mem_append_right _ (nodesL_mem hk hx)
theorem nodes_kid {α : Type} {t k x : LT α} (hk : k ∈ t.kids) (hx : x ∈ k.nodes) : x ∈ t.nodes := by
  cases t with
  | mk a kd n u ty m g ks =>
    unfold nodes
    exact List.mem_cons_of_mem _ (nodesL_mem hk hx)
theorem count_kid {α : Type} {k : LT α} : ∀ {l : List (LT α)}, k ∈ l → k.count ≤ countL l
  | t :: r, hk => by
    unfold countL
    rcases List.mem_cons.1 hk with rfl | hk
    · omega
    · have := count_kid hk
      omega
theorem count_kids {α : Type} (t : LT α) : t.count = countL t.kids + 1 := by cases t; rfl
end LT
mutual
theorem numT_next {α : Type} [DecidableEq α] : ∀ (t : LT α) (I : α → Nat) (n : Nat), (Nm.numT I n t).2 = n + t.count
  | .mk a _ _ _ _ _ _ ks, I, n => by
    unfold Nm.numT LT.count
    rw [numL_next ks]
    omega
theorem numL_next {α : Type} [DecidableEq α] : ∀ (l : List (LT α)) (I : α → Nat) (n : Nat), (Nm.numL I n l).2 = n + LT.countL l
  | [], I, n => rfl
  | t :: r, I, n => by
    unfold Nm.numL LT.countL
    rw [numL_next r, numT_next t]
    omega
end
end Go.Proofs.YtljdphpbalioaaaGreatDoor
