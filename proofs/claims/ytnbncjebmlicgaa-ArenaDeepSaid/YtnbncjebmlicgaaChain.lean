/- Plain: a chain of nodes, one below the other: which is above, below, whether it is a tree. -/
import Derived.Test.YtnbncjebmlicgaaArTreeP
import Derived.Test.YtnbncjebmlicgaaWalkP
namespace Go.Proofs.Ytnbncjebmlicgaa
open Go.RowKit

/-- the node i of s -/
def cnd (s i : Nat) : Nd := ⟨if i ≤ 1 then 1 else 2, ⟨#[]⟩, 0, 0, 0, if i < s then [i + 1] else []⟩
/-- the first j of them -/
def chain (s j : Nat) : List (Nat × Nd) := (List.range j).map fun i => (i + 1, cnd s (i + 1))

theorem cnd_ok (s i : Nat) (h : s ≤ 1000) : (cnd s i).Ok := by
  refine ⟨?_, (show (0 : Nat) < 256 by decide), (show (0 : Nat) < 18446744073709551616 by decide), (show (Lit.int .i64 0).wf = true by decide), (show (ByteArray.mk #[]).size ≤ maxLen from Nat.zero_le _), ?_, fun x hx => ?_⟩
  · unfold cnd; dsimp only; split <;> omega
  · unfold cnd; dsimp only; split <;> simp
  · unfold cnd at hx
    dsimp only at hx
    split at hx
    · simp at hx; omega
    · cases hx
theorem chain_len (s j : Nat) : (chain s j).length = j := by simp [chain]
theorem chain_mem {s j : Nat} {p : Nat × Nd} : p ∈ chain s j ↔ 1 ≤ p.1 ∧ p.1 ≤ j ∧ p.2 = cnd s p.1 := by
  unfold chain
  rw [List.mem_map]
  constructor
  · rintro ⟨i, hi, rfl⟩
    have := List.mem_range.1 hi
    exact ⟨by show 1 ≤ i + 1; omega, by show i + 1 ≤ j; omega, rfl⟩
  · rintro ⟨h1, h2, h3⟩
    refine ⟨p.1 - 1, List.mem_range.2 (by omega), ?_⟩
    have e : p.1 - 1 + 1 = p.1 := by omega
    rw [e, ← h3]
theorem chain_succ (s j : Nat) : chain s (j + 1) = chain s j ++ [(j + 1, cnd s (j + 1))] := by
  unfold chain
  rw [List.range_succ, List.map_append]
  rfl
theorem insA_end {α : Type} {l : List (Nat × α)} {k : Nat} {v : α} (h : ∀ p ∈ l, p.1 < k) : insA (k, v) l = l ++ [(k, v)] := by
  induction l with
  | nil => rfl
  | cons y r ih =>
    unfold insA
    rw [if_neg (by have := h y (List.mem_cons_self ..); show ¬ k < y.1; omega), ih fun p hp => h p (List.mem_cons_of_mem _ hp)]
    rfl
theorem putA_end {α : Type} {l : List (Nat × α)} {k : Nat} {v : α} (h : ∀ p ∈ l, p.1 < k) : putA l k v = l ++ [(k, v)] := by
  unfold putA
  rw [delA_not _ _ (getA_none.2 fun p hp e => by have := h p hp; omega), insA_end h]
theorem chain_put (s j : Nat) : putA (chain s j) (j + 1) (cnd s (j + 1)) = chain s (j + 1) := by
  rw [putA_end fun p hp => by have := (chain_mem.1 hp).2.1; omega, chain_succ]
theorem chain_first (s : Nat) (n : Nd) : putA [(1, n)] 1 (cnd s 1) = chain s 1 := by
  unfold putA delA
  rfl
theorem chain_asc (s j : Nat) (h : j ≤ 1000) : AscA (chain s j) := by
  refine ⟨?_, fun p hp => by have := (chain_mem.1 hp).2.1; omega⟩
  unfold chain
  rw [List.pairwise_map]
  refine List.Pairwise.imp (R := (· < ·)) (fun h => ?_) (List.pairwise_lt_range)
  show _ + 1 < _ + 1
  omega
theorem chain_get (s j x : Nat) (h : j ≤ 1000) (h1 : 1 ≤ x) (h2 : x ≤ j) : getA (chain s j) x = some (cnd s x) :=
  getA_of_mem (chain_asc s j h) (p := (x, cnd s x)) (chain_mem.2 ⟨h1, h2, rfl⟩)

theorem find_only {α : Type} {l : List α} {p : α → Bool} {x : α} (hx : x ∈ l) (hp : p x = true) (h : ∀ y ∈ l, p y = true → y = x) : l.find? p = some x := by
  cases hf : l.find? p with
  | none => exact absurd hp (by have := List.find?_eq_none.1 hf x hx; simpa using this)
  | some y => rw [h y (List.mem_of_find?_eq_some hf) (List.find?_some hf)]

theorem chain_par (s x : Nat) (_ : s ≤ 1000) (h1 : 1 ≤ x) (h2 : x ≤ s) : parOf (chain s s) x = (x - 1, 0) := by
  have hk : ∀ p ∈ chain s s, p.2.kids.contains x = true → p.1 + 1 = x := fun p hp hc => by
    have := (chain_mem.1 hp).2.2
    rw [this] at hc
    unfold cnd at hc
    dsimp only at hc
    split at hc
    · simp at hc; omega
    · simp at hc
  unfold parOf
  by_cases hx : x = 1
  · subst hx
    rw [List.find?_eq_none.2 fun p hp hc => by have := hk p hp (by simpa using hc); have := (chain_mem.1 hp).1; omega]
  · have hin : (x - 1, cnd s (x - 1)) ∈ chain s s := chain_mem.2 ⟨by show 1 ≤ x - 1; omega, by show x - 1 ≤ s; omega, rfl⟩
    have hkid : (cnd s (x - 1)).kids = [x] := by
      unfold cnd
      dsimp only
      rw [if_pos (by omega), show x - 1 + 1 = x by omega]
    rw [find_only hin (by show (cnd s (x - 1)).kids.contains x = true; rw [hkid]; simp) fun p hp hc => ?_]
    · show (x - 1, idxI (cnd s (x - 1)).kids x) = _
      rw [hkid]
      have : idxI [x] x = 0 := idxI_hit (k := 0) rfl fun j hj => by omega
      rw [this]
    · have e := hk p hp hc
      have e2 := (chain_mem.1 hp).2.2
      have e3 : p.1 = x - 1 := by omega
      rw [e3] at e2
      exact Prod.ext e3 e2

theorem chain_aboveF (s : Nat) (hs : s ≤ 1000) : ∀ (x f : Nat) (sl : List (Nat × Value)), 1 ≤ x → x ≤ s → x ≤ f → (∀ p ∈ sl, x < p.1) → aboveF (chain s s) 1 f sl x = 1 := by
  intro x
  induction x with
  | zero => intro f sl h1; omega
  | succ x ih =>
    intro f sl h1 h2 h3 h4
    cases f with
    | zero => omega
    | succ f =>
      have hg := chain_get s s (x + 1) hs h1 h2
      have hsl : getA sl (x + 1) = none := getA_none.2 fun p hp e => by have := h4 p hp; omega
      rw [aboveF, if_neg (by rw [hsl]; rintro (h | h); omega; cases h), hg]
      show (if (cnd s (x + 1)).kind = 1 then x + 1 else _) = 1
      by_cases hx : x = 0
      · subst hx
        exact if_pos rfl
      · rw [if_neg (by unfold cnd; dsimp only; rw [if_neg (by omega)]; omega), chain_par s (x + 1) hs h1 h2]
        exact ih f _ (by omega) (by omega) (by omega) fun p hp => by
          rcases mem_insA.1 hp with rfl | hp
          · show x < x + 1; omega
          · have := h4 p (List.mem_filter.1 hp).1; omega
theorem chain_above (s x : Nat) (hs : s ≤ 1000) (h1 : 1 ≤ x) (h2 : x ≤ s) : aboveOf (chain s s) x 1 = 1 := by
  unfold aboveOf
  exact chain_aboveF s hs x _ [] h1 h2 (by rw [chain_len]; omega) fun p hp => by cases hp

theorem chain_walkO (s : Nat) (hs : s ≤ 1000) : ∀ (k x : Nat) (out : List Nat), s - x = k → 1 ≤ x → x ≤ s → (∀ y ∈ out, y < x) → (walkO (chain s s) out [x]).length = out.length + (s - x + 1) := by
  intro k
  induction k with
  | zero =>
    intro x out hk h1 h2 h3
    have e : x = s := by omega
    subst e
    rw [walkO_step (chain_get x x x hs h1 h2) (fun h => by have := h3 x h; omega)]
    have hkid : (cnd x x).kids = [] := by unfold cnd; dsimp only; rw [if_neg (by omega)]
    rw [hkid, List.nil_append, walkO_nil, List.length_append]
    simp
  | succ k ih =>
    intro x out hk h1 h2 h3
    rw [walkO_step (chain_get s s x hs h1 h2) (fun h => by have := h3 x h; omega)]
    have hkid : (cnd s x).kids = [x + 1] := by unfold cnd; dsimp only; rw [if_pos (by omega)]
    rw [hkid, List.append_nil, ih (x + 1) (out ++ [x]) (by omega) (by omega) (by omega) fun y hy => by
      rcases List.mem_append.1 hy with hy | hy
      · have := h3 y hy; omega
      · simp at hy; omega]
    simp
    omega
theorem chain_walk (s x : Nat) (hs : s ≤ 1000) (h1 : 1 ≤ x) (h2 : x ≤ s) : (walkOf (chain s s) x).length = s - x + 1 := by
  unfold walkOf
  rw [chain_walkO s hs _ x [] rfl h1 h2 fun y hy => by cases hy]
  simp

/-- how deep the first j lie -/
def dch (j : Nat) : List (Nat × Nat) := (List.range j).map fun i => (i + 1, i + 1)
theorem dch_mem {j : Nat} {p : Nat × Nat} : p ∈ dch j ↔ 1 ≤ p.1 ∧ p.1 ≤ j ∧ p.2 = p.1 := by
  unfold dch
  rw [List.mem_map]
  constructor
  · rintro ⟨i, hi, rfl⟩
    have := List.mem_range.1 hi
    exact ⟨by show 1 ≤ i + 1; omega, by show i + 1 ≤ j; omega, rfl⟩
  · rintro ⟨h1, h2, h3⟩
    refine ⟨p.1 - 1, List.mem_range.2 (by omega), ?_⟩
    have e : p.1 - 1 + 1 = p.1 := by omega
    rw [e]
    exact Prod.ext rfl h3.symm
theorem dch_asc (j : Nat) (h : j ≤ 1000) : AscA (dch j) := by
  refine ⟨?_, fun p hp => by have := (dch_mem.1 hp).2.1; omega⟩
  unfold dch
  rw [List.pairwise_map]
  refine List.Pairwise.imp (R := (· < ·)) (fun h => ?_) (List.pairwise_lt_range)
  show _ + 1 < _ + 1
  omega
theorem dch_put (j : Nat) : putA (dch j) (j + 1) (j + 1) = dch (j + 1) := by
  rw [putA_end fun p hp => by have := (dch_mem.1 hp).2.1; omega]
  unfold dch
  rw [List.range_succ, List.map_append]
  rfl
theorem chain_bfs (s : Nat) (hs : s ≤ 1000) : ∀ (k x f : Nat), s - x = k → 1 ≤ x → x ≤ s → x ≤ 200 → s - x + 2 ≤ f → bfsF (chain s s) f [x] (dch x) = if s ≤ 200 then some (dch s) else none := by
  intro k
  induction k with
  | zero =>
    intro x f hk h1 h2 h3 h4
    have e : x = s := by omega
    subst e
    obtain ⟨f, rfl⟩ : ∃ g, f = g + 2 := ⟨f - 2, by omega⟩
    have hat : atN (chain x x) x = cnd x x := by unfold atN; rw [chain_get x x x hs h1 h2]; rfl
    have hkid : (cnd x x).kids = [] := by unfold cnd; dsimp only; rw [if_neg (by omega)]
    rw [bfsF_next (by simp)]
    unfold levelF
    rw [hat, hkid]
    unfold kidsF
    dsimp only
    unfold levelF bfsNext
    show bfsF (chain x x) (f + 1) [] (dch x) = _
    rw [bfsF, if_pos rfl, if_pos h3]
  | succ k ih =>
    intro x f hk h1 h2 h3 h4
    obtain ⟨f, rfl⟩ : ∃ g, f = g + 1 := ⟨f - 1, by omega⟩
    have hat : atN (chain s s) x = cnd s x := by unfold atN; rw [chain_get s s x hs h1 h2]; rfl
    have hkid : (cnd s x).kids = [x + 1] := by unfold cnd; dsimp only; rw [if_pos (by omega)]
    have hd1 : getA (dch x) (x + 1) = none := getA_none.2 fun p hp e => by have := (dch_mem.1 hp).2.1; omega
    have hd2 : getA (dch x) x = some x := getA_of_mem (dch_asc x (by omega)) (p := (x, x)) (dch_mem.2 ⟨h1, Nat.le_refl _, rfl⟩)
    rw [bfsF_next (by simp)]
    unfold levelF
    rw [hat, hkid]
    unfold kidsF
    rw [hd1, hd2, chain_get s s (x + 1) hs (by omega) (by omega)]
    by_cases h200 : 200 ≤ x
    · rw [if_pos (.inr (.inr h200)), if_neg (by omega)]
      rfl
    · rw [if_neg (by rintro (h | h | h); cases h; cases h; exact h200 h)]
      unfold kidsF
      dsimp only
      unfold levelF bfsNext
      rw [Option.getD_some, dch_put, List.nil_append]
      exact ih (x + 1) f (by omega) (by omega) (by omega) (by omega) (by omega)
theorem chain_tree (s : Nat) (h1 : 1 ≤ s) (hs : s ≤ 1000) : treeOf (chain s s) = decide (s ≤ 200) := by
  have hrefs : refsB (chain s s) = true := by
    unfold refsB
    rw [List.all_eq_true]
    intro p hp
    rw [(chain_mem.1 hp).2.2]
    rfl
  have hd : [(1, 1)] = dch 1 := rfl
  rw [treeOf_end (chain_get s s 1 hs (by omega) h1) rfl, hd, chain_bfs s hs (s - 1) 1 _ rfl (by omega) h1 (by omega) (by rw [chain_len]; omega)]
  by_cases h : s ≤ 200
  · rw [if_pos h, decide_eq_true h]
    unfold treeEnd
    rw [hrefs, chain_len]
    unfold dch
    simp
  · rw [if_neg h, decide_eq_false h]
    rfl
end Go.Proofs.Ytnbncjebmlicgaa
