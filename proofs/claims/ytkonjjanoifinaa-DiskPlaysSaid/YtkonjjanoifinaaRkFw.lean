/- Lemmas: rows, appended. -/
import Derived.Test.YtkonjjanoifinaaRkDoSync
import Derived.BigQuiet
namespace Go.Proofs.Ytkonjjanoifinaa
open Go.RowKit

def Fw (F : Nat → Prop) (w w' : World) : Nat → Prop := fun k => F k ∨ (w.heap.size ≤ k ∧ k < w'.heap.size)

theorem Fw.mono {F : Nat → Prop} {w a b : World} (h : a.heap.size ≤ b.heap.size) {k : Nat} : Fw F w a k → Fw F w b k := fun h' => h'.imp id fun h1 => ⟨h1.1, Nat.lt_of_lt_of_le h1.2 h⟩

theorem RowsAt.fw {w a b : World} {v : Value} {ls : List (List UInt8)} {F : Nat → Prop} (h : RowsAt b v ls (Fw F w a)) (hs : a.heap.size ≤ b.heap.size) : RowsAt b v ls (Fw F w b) := h.mono fun _ => Fw.mono hs

theorem rotW_at (i bit mask len : Nat) (x : Nat × List UInt8) (h : x.1 = i) : rotW i bit mask len x = (x.1, turnOf x.2 bit mask len) := by
  obtain ⟨a, l⟩ := x
  unfold rotW
  rw [if_pos h]
theorem rotW_off (i bit mask len : Nat) (x : Nat × List UInt8) (h : x.1 ≠ i) : rotW i bit mask len x = x := by
  unfold rotW
  rw [if_neg h]


theorem own_lit0 (e size : Nat) (w : World) : (w.alloc (.cells #[] e)).ownsRow w.heap.size e size (.slice (some ⟨w.heap.size, 0, none⟩) 0 0) 0 [] :=
  ⟨by simp, .inr ⟨w.heap.size, 0, #[], rfl, Nat.le_refl _, heap_alloc_new w _, Nat.le_refl _, Nat.zero_le _, by simp, by simp⟩⟩

theorem crash_take (keep : List Bool) (d : Dk) (k : Nat) (x : Nat × List UInt8) (hx : d.wait[k]? = some x) : crashOf keep 0 (d.wait.take (k + 1)) d.safe = if keep.getD k false then (crashOf keep 0 (d.wait.take k) d.safe).set x.1 x.2 else crashOf keep 0 (d.wait.take k) d.safe := by
  obtain ⟨hk, hx'⟩ := List.getElem?_eq_some_iff.1 hx
  rw [List.take_succ_eq_append_getElem hk, crashOf_snoc, List.length_take, Nat.zero_add, Nat.min_eq_left (Nat.le_of_lt hk), hx']


theorem only_own {e T s sz m n base b2 : Nat} {w w' : World} {u v : Value} {xs ys : List Value} (h : w.ownsRow base e s u m ys) (hv : w.ownsRow b2 T sz v n xs) (ho : Only w w' (fun k => v.ownBlock = some k)) (hT : e ≠ T) : w'.ownsRow base e s u m ys :=
  own_only h ho fun k hk e' => by
    rcases own_apart h hv hT with h' | h'
    · rw [h'] at hk; cases hk
    · exact h' (hk.trans e'.symm)

theorem RowsAt.row {w w' : World} {v v' : Value} {ls : List (List UInt8)} {F : Nat → Prop} {T sz n b2 : Nat} {xs : List Value} (h : RowsAt w v ls F) (hv : w.ownsRow b2 T sz v' n xs) (ho : Only w w' (fun k => v'.ownBlock = some k)) (h1 : 22 ≠ T) (h2 : 5 ≠ T) : RowsAt w' v ls F := by
  obtain ⟨us, g1, g2, g3, g4⟩ := h
  exact ⟨us, g1, only_own g2 hv ho h1, fun j u l hu hl => ⟨only_own (g3 j u l hu hl).1 hv ho h2, (g3 j u l hu hl).2⟩, g4⟩

/-- other rows, apart from those that turn -/
theorem RowsAt.apart {w w' : World} {v v' : Value} {ls : List (List UInt8)} {F : Nat → Prop} {n b2 : Nat} {xs : List Value} (h : RowsAt w v ls F) (hv : w.ownsRow b2 22 1 v' n xs) (ho : Only w w' (fun k => v'.ownBlock = some k)) (hne : v.ownBlock = none ∨ v.ownBlock ≠ v'.ownBlock) : RowsAt w' v ls F := by
  obtain ⟨us, g1, g2, g3, g4⟩ := h
  refine ⟨us, g1, own_only g2 ho fun k hk e => ?_, fun j u l hu hl => ⟨only_own (g3 j u l hu hl).1 hv ho (by decide), (g3 j u l hu hl).2⟩, g4⟩
  rcases hne with h | h
  · rw [h] at hk; cases hk
  · exact h (hk.trans e.symm)

/-- one more row -/
theorem RowsAt.app {w w' : World} {v v' u : Value} {ls : List (List UInt8)} {l : List UInt8} {F G : Nat → Prop} {us : List Value} {n : Nat} (g1 : us.length = ls.length) (g2 : w.ownsRow 0 22 1 v n us)
    (g3 : ∀ (j : Nat) u l, us[j]? = some u → ls[j]? = some l → Own8 5 0 w u l ∧ ∀ k, u.ownBlock = some k → F k) (g4 : ∀ k, v.ownBlock = some k → F k)
    (hu : Own8 5 0 w u l) (huG : ∀ k, u.ownBlock = some k → G k) (hFG : ∀ k, F k → G k) (ho : w'.ownsRow 0 22 1 v' (n + 1) (us ++ [u])) (hg : w.grownBy w' v.ownBlock) (hs : Stays w v v')
    (hnew : ∀ k, w.heap.size ≤ k → k < w'.heap.size → G k) : RowsAt w' v' (ls ++ [l]) G := by
  have hon := Only.of_grown hg
  have hn : us.length = n := by have := g2.1; omega
  subst hn
  refine ⟨us ++ [u], by rw [List.length_append, List.length_append, g1]; rfl, by rw [List.length_append]; exact ho, fun j x l' hx hl => ?_, fun k hk => ?_⟩
  · by_cases hj : j < us.length
    · rw [List.getElem?_append_left hj] at hx
      rw [List.getElem?_append_left (by omega)] at hl
      exact ⟨only_own (g3 j x l' hx hl).1 g2 hon (by decide), fun k hk => hFG k ((g3 j x l' hx hl).2 k hk)⟩
    · rw [List.getElem?_append_right (by omega)] at hx
      rw [List.getElem?_append_right (by omega), ← g1] at hl
      rcases hjj : j - us.length with _ | m
      · rw [hjj] at hx hl
        cases hx; cases hl
        exact ⟨only_own hu g2 hon (by decide), huG⟩
      · rw [hjj] at hx; cases hx
  · rcases hs with h | h
    · rw [h] at hk; exact hFG k (g4 k hk)
    · exact hnew k (h k hk) (World.ownsRow.lt ho k hk).2

/-- an append to a row of one's own, and where it lies then -/
theorem wp_app' {P : Program} {w : World} {o : Oper} {a : Act} {K : Act → World → Prop} {Q : Exit → Act → World → Prop} (s x : Operand)
    (t e size bytes : Nat) (T : RowTy P t e size bytes) (ho : o.op = .call { callee := .builtin .append, args := #[s, x], argTypes := #[t, t] })
    (base : Nat) (v : Value) (n : Nat) (xs : List Value) (hs : a.eval s = v) (hown : w.ownsRow base e size v n xs)
    (ad : Addr) (m c : Nat) (news : List Value) (hx : a.eval x = .slice (some ad) m c) (hl : news.length = m * size) (hnews : ∀ j u, news[j]? = some u → w.cell? (ad.add j) = some u) (h1 : ∀ u ∈ news, u.oneCell' = true)
    (h63 : n + m ≤ maxLen) (hbytes : (n + m) * bytes ≤ 140737488355328) (hbase : base ≤ w.heap.size)
    (h : ∀ v' w', w'.ownsRow base e size v' (n + m) (xs ++ news) → w.grownBy w' v.ownBlock → Stays w v v' → K (a.put o.dst v') w') : o.wp P a w K Q := by
  obtain ⟨i, z, hi, hz, hsz, hby, hzs⟩ := T.ex
  obtain ⟨v', w', hr, h2, h3, h4⟩ := run_append_own' (P := P) (w := w) base t o.type e i z size bytes T.ht hi hz hsz hby hzs T.pos v n xs hown ad m c news hl hnews h1 h63 hbytes hbase
  unfold Oper.wp execOp
  simp only [ho, resolve, invoke, builtin, Sem.run_bind, Sem.run_pure, Result.andThen_ok, List.map_toArray, List.map_cons, List.map_nil, hs, hx, hr]
  exact h v' w' h2 h3 h4

theorem Dk.wrote_left (d : Dk) (i : Nat) (p : List UInt8) (hb : d.bound = true → 0 ≤ d.left) (hm : d.may = true) : (0 < d.refLeft ∧ (d.wrote i p).refLeft = d.refLeft - 1) ∨ (d.refLeft = -1 ∧ (d.wrote i p).refLeft = -1) := d.synced_left hb hm

theorem new1 (w : World) (u : Value) (T : Nat) : ∀ (j : Nat) (x : Value), [u][j]? = some x → (w.alloc (.cells #[u] T)).cell? ((⟨w.heap.size, 0, none⟩ : Addr).add j) = some x := fun j x hx => by
  rcases j with _ | j
  · cases hx
    exact cell_of_row _ w.heap.size 0 _ _ _ (heap_alloc_new w _)
  · cases hx

end Go.Proofs.Ytkonjjanoifinaa
