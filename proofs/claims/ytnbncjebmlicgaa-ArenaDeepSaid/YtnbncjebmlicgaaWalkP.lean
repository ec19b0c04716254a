/- Plain: a walk over an arena; what an append of IDs does. -/
import Derived.Test.YtnbncjebmlicgaaRev
import Derived.Test.YtnbncjebmlicgaaSeq
import Derived.Test.YtnbncjebmlicgaaArAbove
import Derived.OwnWalkIn
namespace Go.Proofs.Ytnbncjebmlicgaa
open Go Go.RowKit

/-- how much is left to walk at most -/
def todo (l : List (Nat × Nd)) (out : List Nat) : Nat := (l.map fun p => if p.1 ∈ out then 0 else p.2.kids.length + 1).sum
theorem todo_le {l : List (Nat × Nd)} {out : List Nat} (x : Nat) : todo l (out ++ [x]) ≤ todo l out := by
  unfold todo
  induction l with
  | nil => exact Nat.le_refl _
  | cons p r ih =>
    simp only [List.map_cons, List.sum_cons]
    have : (if p.1 ∈ out ++ [x] then 0 else p.2.kids.length + 1) ≤ (if p.1 ∈ out then 0 else p.2.kids.length + 1) := by
      by_cases h : p.1 ∈ out
      · rw [if_pos h, if_pos (by simp [h])]
        exact Nat.le_refl _
      · rw [if_neg h]
        split
        · exact Nat.zero_le _
        · exact Nat.le_refl _
    omega
theorem todo_step {l : List (Nat × Nd)} {out : List Nat} {x : Nat} {n : Nd} (hn : getA l x = some n) (hx : x ∉ out) : todo l (out ++ [x]) + n.kids.length + 1 ≤ todo l out := by
  induction l with
  | nil => cases hn
  | cons p r ih =>
    unfold getA at hn ih
    rw [List.find?_cons] at hn
    have hle := todo_le (l := r) (out := out) x
    unfold todo at ih hle ⊢
    simp only [List.map_cons, List.sum_cons]
    cases hp : p.1 == x with
    | true =>
      rw [hp] at hn
      have e1 : p.1 = x := by simpa using hp
      have e2 : p.2 = n := by simpa using hn
      rw [if_pos (by rw [e1]; simp), if_neg (by rw [e1]; exact hx), e2]
      omega
    | false =>
      rw [hp] at hn
      have e1 : p.1 ≠ x := by simpa using hp
      have := ih hn
      by_cases h : p.1 ∈ out
      · rw [if_pos h, if_pos (by simp [h])]
        omega
      · rw [if_neg h, if_neg (by simp [h, e1])]
        omega

/-- the walk: what has come; what waits, the next one ahead -/
def walkO (l : List (Nat × Nd)) (out st : List Nat) : List Nat := match st with
  | [] => out
  | x :: st => if h : (getA l x).isSome = true ∧ x ∉ out then walkO l (out ++ [x]) (((getA l x).get h.1).kids ++ st) else walkO l out st
termination_by todo l out + st.length
decreasing_by
  · have := todo_step (l := l) (out := out) (x := x) (n := (getA l x).get h.1) (Option.some_get h.1).symm h.2
    simp
    omega
  · simp
def walkOf (l : List (Nat × Nd)) (x : Nat) : List Nat := walkO l [] [x]

theorem walkO_nil (l : List (Nat × Nd)) (out : List Nat) : walkO l out [] = out := by rw [walkO]
theorem walkO_skip {l : List (Nat × Nd)} {out st : List Nat} {x : Nat} (h : getA l x = none ∨ x ∈ out) : walkO l out (x :: st) = walkO l out st := by
  rw [walkO, dif_neg]
  rintro ⟨h1, h2⟩
  rcases h with h | h
  · rw [h] at h1; cases h1
  · exact h2 h
theorem walkO_step {l : List (Nat × Nd)} {out st : List Nat} {x : Nat} {n : Nd} (hn : getA l x = some n) (h : x ∉ out) : walkO l out (x :: st) = walkO l (out ++ [x]) (n.kids ++ st) := by
  rw [walkO, dif_pos ⟨by rw [hn]; rfl, h⟩]
  congr 2
  simp [hn]
theorem walkO_pre (l : List (Nat × Nd)) (out st : List Nat) : ∃ r, walkO l out st = out ++ r := by
  induction h : todo l out + st.length using Nat.strongRecOn generalizing out st with
  | _ n ih =>
    subst h
    cases st with
    | nil => exact ⟨[], by rw [walkO_nil, List.append_nil]⟩
    | cons x st =>
      cases hn : getA l x with
      | none =>
        rw [walkO_skip (.inl hn)]
        exact ih _ (by simp) _ _ rfl
      | some n =>
        by_cases hx : x ∈ out
        · rw [walkO_skip (.inr hx)]
          exact ih _ (by simp) _ _ rfl
        · rw [walkO_step hn hx]
          have := todo_step hn hx
          obtain ⟨r, hr⟩ := ih _ (by simp; omega) (out ++ [x]) (n.kids ++ st) rfl
          exact ⟨x :: r, by rw [hr, List.append_assoc]; rfl⟩
theorem todo_max {l : List (Nat × Nd)} (ok : ∀ p ∈ l, p.2.kids.length ≤ 1000000) (out : List Nat) : todo l out ≤ l.length * 1000001 := by
  unfold todo
  induction l with
  | nil => exact Nat.le_refl _
  | cons p r ih =>
    simp only [List.map_cons, List.sum_cons, List.length_cons]
    have := ih fun q hq => ok q (List.mem_cons_of_mem _ hq)
    have h1 := ok p (List.mem_cons_self ..)
    have : (if p.1 ∈ out then 0 else p.2.kids.length + 1) ≤ 1000001 := by split <;> omega
    omega

/-- a map's entries are in its block -/
theorem MapU.uniq {P : Program} {k : TypeId} {w : World} {b : Nat} {l m : List (Nat × Value)} (h1 : MapU P k w b l) (h2 : MapU P k w b m) : l = m := by
  obtain ⟨es1, c1, hb1, F1, -, hD1⟩ := h1.1
  obtain ⟨es2, c2, hb2, F2, -, hD2⟩ := h2.1
  rw [hb1] at hb2
  cases hb2
  have hd : dU l = dU m := hD1.trans hD2.symm
  have h3 : entU l = entU m := by injection hd
  have h4 : ∀ (a c : List (Nat × Value)), entU a = entU c → a = c := by
    intro a
    induction a with
    | nil => intro c h; cases c with
      | nil => rfl
      | cons y r => cases h
    | cons y r ih => intro c h; cases c with
      | nil => cases h
      | cons y' r' =>
        have h5 := List.cons.inj h
        have h6 : kU y.1 = kU y'.1 ∧ (DataW.held y.2 : DataW Value) = .held y'.2 := by simpa using h5.1
        have h7 : y.1 = y'.1 := by have := h6.1; unfold kU at this; injection this with _ h8; omega
        have h8 : y.2 = y'.2 := by have := h6.2; injection this
        rw [ih r' h5.2, Prod.ext h7 h8]
  exact h4 _ _ h3
theorem U64_inj {a b : List Nat} (h : a.map U64 = b.map U64) : a = b := by
  have : ∀ x y : Nat, U64 x = U64 y → x = y := fun x y e => by unfold U64 at e; injection e with _ h; omega
  induction a generalizing b with
  | nil => cases b with
    | nil => rfl
    | cons y r => cases h
  | cons x r ih => cases b with
    | nil => cases h
    | cons y r' =>
      rw [List.map_cons, List.map_cons] at h
      have h5 := List.cons.inj h
      rw [this _ _ h5.1, ih h5.2]
theorem OwnIds.uniq {b1 b2 : Nat} {w : World} {v : Value} {l m : List Nat} (h1 : OwnIds b1 w v l) (h2 : OwnIds b2 w v m) : l = m := by
  apply U64_inj
  obtain ⟨a1, e1 | ⟨g, cap, cur, rfl, hb, hg, hc, hm, hs, ht⟩⟩ := h1
  · have hl : l = [] := List.length_eq_zero_iff.1 e1.2
    obtain ⟨a2, e2 | ⟨g, cap, cur, e, -⟩⟩ := h2
    · have hm : m = [] := List.length_eq_zero_iff.1 e2.2
      rw [hl, hm]
    · rw [e1.1] at e; cases e
  · obtain ⟨a2, e2 | ⟨g', cap', cur', e, hb', hg', hc', hm', hs', ht'⟩⟩ := h2
    · cases e2.1
    · injection e with e3 e4 e5
      injection e3 with e6
      injection e6 with e7
      subst e7
      rw [hg] at hg'
      cases hg'
      rw [e4] at ht
      rw [← ht, ← ht']

/-- the last one taken off -/
theorem OwnIds.cut {base : Nat} {w : World} {g n c : Nat} {l : List Nat} {x : Nat} (h : OwnIds base w (.slice (some ⟨g, 0, none⟩) n c) (l ++ [x])) : OwnIds base w (.slice (some ⟨g, 0, none⟩) l.length c) l := by
  obtain ⟨h1, h2 | ⟨g', cap, cur, e, hb, hg, hc, hm, hs, ht⟩⟩ := h
  · exact absurd h2.1 (by simp)
  · cases e
    refine ⟨by simp, .inr ⟨g, c, cur, rfl, hb, hg, by simp at hc; omega, hm, hs, ?_⟩⟩
    have h3 : (cur.toList.take ((l ++ [x]).length * 1)).take (l.length * 1) = ((l ++ [x]).map U64).take (l.length * 1) := by rw [ht]
    rw [List.take_take, Nat.min_eq_left (by simp)] at h3
    rw [h3]
    simp

/-- an append of IDs to a row of one's own, run -/
theorem run_app_ids {base : Nat} {w : World} {v y : Value} {xs ys : List Nat} (hv : OwnIds base w v xs) (hy : Ids w y ys) (ty : TypeId) (hb : base ≤ w.heap.size) (hbig : xs.length + ys.length ≤ 17000000000000) :
    ∃ v' w', (Builtin.append_ #[27, 27] ty #[v, y]).run Try.prog w = .ok v' w' ∧ OwnIds base w' v' (xs ++ ys) ∧ w.grownBy w' v.ownBlock ∧ Stays w v v' := by
  obtain ⟨a, c, rfl, hm, hc, hn, hl⟩ := hy.lies
  obtain ⟨i, z, hi, hz, hsz, hby, hzs⟩ := rowI.ex
  cases a with
  | none =>
    have hc0 := hn rfl
    have hys : ys = [] := List.length_eq_zero_iff.1 (by omega)
    subst hys
    subst hc0
    refine ⟨v, w, ?_, by rw [List.append_nil]; exact hv, ⟨rfl, rfl, rfl, Nat.le_refl _, fun _ _ _ => rfl⟩, .inl rfl⟩
    exact run_append_owned_none (P := Try.prog) (w := w) base 27 ty 26 i 1 rowI.ht hi v xs.length (xs.map U64) hv
  | some ad =>
    obtain ⟨v', w', hr, h2, h3, h4⟩ := run_append_own' (P := Try.prog) (w := w) base 27 ty 26 i z 1 8 rowI.ht hi hz hsz hby hzs rowI.pos v xs.length (xs.map U64) hv ad ys.length c (ys.map U64) (by simp) (fun j u hu => by
      rcases hl with h0 | ⟨g, o', ha, hr⟩
      · rw [h0] at hu; simp at hu
      · cases ha
        rw [Addr.add_mid]
        exact hr j u hu) (U64_one ys) (by unfold maxLen; omega) (by omega) hb
    refine ⟨v', w', hr, ?_, h3, h4⟩
    unfold OwnIds
    rw [List.length_append, List.map_append]
    exact h2

/-- an append whose run is known -/
theorem wpListIn_run {F : Fence} {n : Nat} {P : Program} {w : World} {ops : Array Oper} {rest : List Oper} {o : Oper} {a : Act} {Q : Exit → Act → World → Prop} (hg : o.guard = none) (s x : Operand) (t : TypeId) (ho : o.op = .call { callee := .builtin .append, args := #[s, x], argTypes := #[t, t] })
    (v y v' : Value) (w' : World) (hs : a.eval s = v) (hx : a.eval x = y) (hrun : (Builtin.append_ #[t, t] o.type #[v, y]).run P w = .ok v' w') (h : wpListIn F n P ops Q rest (a.put o.dst v') w') : wpListIn F n P ops Q (o :: rest) a w := by
  refine wpListIn_plain hg fun K hK' => ?_
  unfold Oper.wpIn
  refine ⟨?_, ?_⟩
  · simp [Oper.about, ho, resolve, Target.leads, Sem.run_pure]
  · rw [Oper.semAt_plain F _ _ (by rw [ho]; intro c hc'; cases hc')]
    simp [execOp, ho, resolve, invoke, builtin, hs, hx, hrun, Result.andThen]
    exact hK' _ _ h
end Go.Proofs.Ytnbncjebmlicgaa
