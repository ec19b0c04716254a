/- Walk: Walk's iterator. -/
import Derived.Test.YtnbncjebmlicgaaPreC
import Derived.LoopNIn
import Derived.LoopIn
import Derived.TacticsInMore
import Derived.Shelf.RegionOpen
namespace Go.Proofs.Ytnbncjebmlicgaa
open Go Go.RowKit
attribute [local go_sem] Oper.semAt_some

/-- an arena, or none -/
def ArV (w : World) (va : Value) (l : List (Nat × Nd)) : Prop := (va = .pointer none ∧ l = []) ∨ ∃ g b, va = .pointer (some ⟨g, 0, none⟩) ∧ ArAt w g b l
theorem ArV.below {w w' : World} {va : Value} {l : List (Nat × Nd)} (h : ArV w va l) (hb : Below w.heap.size w w') : ArV w' va l := by
  rcases h with h | ⟨g, b, e, h⟩
  · exact .inl h
  · exact .inr ⟨g, b, e, h.below hb⟩
theorem getv_any (va : Value) (l : List (Nat × Nd)) (x : Nat) (w : World) (h : ArV w va l) (hx : x < 18446744073709551616) :
    Calls Try.prog 20 #[va, .int .u64 x] w fun e w' => ∃ v', e = .returned (.tuple #[v', .bool (getA l x).isSome]) ∧ OwnNd w.heap.size w' v' (atN l x) ∧ Below w.heap.size w w' := by
  rcases h with ⟨rfl, rfl⟩ | ⟨g, b, rfl, h⟩
  · refine (arget_nil x w).mono ?_
    rintro e w' ⟨rfl, hb⟩
    exact ⟨_, rfl, OwnNd.zero _ _, hb⟩
  · exact arget_any g b l x w h hx
theorem ArV.asc {w : World} {va : Value} {l : List (Nat × Nd)} (h : ArV w va l) : AscA l := by
  rcases h with ⟨-, rfl⟩ | ⟨g, b, -, h⟩
  · exact AscA.nil
  · exact h.asc
theorem ArV.few {w : World} {va : Value} {l : List (Nat × Nd)} (h : ArV w va l) : l.length ≤ 20000 := by
  rcases h with ⟨-, rfl⟩ | ⟨g, b, -, h⟩
  · exact Nat.zero_le _
  · exact h.few
theorem ArV.ok {w : World} {va : Value} {l : List (Nat × Nd)} (h : ArV w va l) : ∀ p ∈ l, p.2.Ok := by
  rcases h with ⟨-, rfl⟩ | ⟨g, b, -, h⟩
  · intro p hp; cases hp
  · intro p hp
    obtain ⟨vl, h1, h2⟩ := h.ex
    rcases h2.get p.1 with ⟨-, h9⟩ | ⟨a, c, -, h9, kv, -, -, ok⟩
    · exact absurd (getA_of_mem h.asc hp) (by rw [h9]; simp)
    · rw [getA_of_mem h.asc hp] at h9; cases h9; exact ok

abbrev El := Nat × Nd × Value
def elEnc (x : El) : Array Value := #[.int .u64 x.1, x.2.2]
/-- where the iterator stands -/
structure WkSt (w : World) (bi ba : Nat) (va : Value) (l : List (Nat × Nd)) (x0 B : Nat) (J : List El → (Nat → Prop) → World → Prop) (A : World) (C : Nat → Prop) (pre : List El) (ks st : List Nat) (sl : List (Nat × Value)) (sb : Nat) (v : Value) : Prop where
  jj : J pre C A
  cb : ∀ q, C q → (w.heap.size ≤ q ∧ q ≠ bi ∧ q ≠ ba) ∨ B ≤ q
  cs : ∀ q, C q → q < A.heap.size
  mp : MapU Try.prog 26 A sb sl
  sb : B ≤ sb ∧ ¬ C sb
  tr : ∀ p ∈ sl, p.2 = .bool true
  se : ∀ x, (getA sl x).isSome = true ↔ x ∈ pre.map (·.1)
  own : OwnIds B A v st.reverse
  vb : ∀ q, v.ownBlock = some q → ¬ C q
  bel : Below w.heap.size w A
  hi : A.cell? ⟨bi, 0, none⟩ = some (.int .u64 x0)
  ha : A.cell? ⟨ba, 0, none⟩ = some va
  bs : w.heap.size ≤ bi ∧ w.heap.size ≤ ba ∧ bi < B ∧ ba < B ∧ B ≤ A.heap.size
  is : walkO l (pre.map (·.1)) (ks ++ st) = walkOf l x0
  el : ∀ x ∈ pre, getA l x.1 = some x.2.1
  few : todo l (pre.map (·.1)) + (ks ++ st).length ≤ 20001000000
  lt : ∀ x ∈ ks ++ st, x < 18446744073709551616
  ar : ArV A va l
  arw : ArV w va l

/-- own IDs stay where a step has nothing to do with them -/
theorem OwnIds.keep {base : Nat} {w w' : World} {v : Value} {l : List Nat} {S : Nat → Prop} (h : OwnIds base w v l) (ho : Only w w' S) (hs : ∀ q, v.ownBlock = some q → ¬ S q) : OwnIds base w' v l := by
  obtain ⟨h1, h2 | ⟨g, cap, cur, rfl, hb, hg, h3⟩⟩ := h
  · exact ⟨h1, .inl h2⟩
  · exact ⟨h1, .inr ⟨g, cap, cur, rfl, hb, (ho.block g (Array.getElem?_eq_some_iff.1 hg).1 (hs g rfl)).trans hg, h3⟩⟩
theorem OwnIds.blk {base : Nat} {w : World} {v : Value} {l : List Nat} (h : OwnIds base w v l) {q : Nat} (hq : v.ownBlock = some q) : base ≤ q ∧ q < w.heap.size := by
  obtain ⟨h1, h2 | ⟨g, cap, cur, rfl, hb, hg, h3⟩⟩ := h
  · rw [h2.1] at hq; cases hq
  · have e : g = q := by simpa [Value.ownBlock] using hq
    subst e
    exact ⟨hb, (Array.getElem?_eq_some_iff.1 hg).1⟩
section
variable {w : World} {bi ba : Nat} {va : Value} {l : List (Nat × Nd)} {x0 B : Nat} {J : List El → (Nat → Prop) → World → Prop} {A A' : World} {C : Nat → Prop} {pre : List El} {ks st : List Nat} {sl : List (Nat × Value)} {sb : Nat} {v : Value} {S : Nat → Prop}
/-- a step of the iterator that has nothing to do with what is told -/
theorem WkSt.only (h : WkSt w bi ba va l x0 B J A C pre ks st sl sb v) (hJ : Holds B J) (ho : Only A A' S) (hS : ∀ q, q < A.heap.size → S q → B ≤ q ∧ ¬ C q ∧ q ≠ sb ∧ v.ownBlock ≠ some q) : WkSt w bi ba va l x0 B J A' C pre ks st sl sb v := by
  have hb : Below w.heap.size A A' := ho.below _ h.bel.size fun i hi hs => by
    have := hS i (Nat.lt_of_lt_of_le hi h.bel.size) hs
    have := h.bs
    omega
  have hcell : ∀ (q : Nat) (u : Value), q < B → A.cell? ⟨q, 0, none⟩ = some u → A'.cell? ⟨q, 0, none⟩ = some u := fun q u hq hc => by
    have hlt := block_lt_of_cell hc
    unfold World.cell? at hc ⊢
    simp only at hc hlt ⊢
    rw [ho.block q hlt fun hs => by have := hS q hlt hs; omega]
    exact hc
  refine ⟨hJ _ _ _ _ h.jj (ho.mono fun i hi hs => ⟨(hS i hi hs).1, (hS i hi hs).2.1⟩), h.cb, fun q hq => Nat.lt_of_lt_of_le (h.cs q hq) ho.size, h.mp.only ho (fun hs => (hS _ h.mp.lt hs).2.2.1 rfl), h.sb, h.tr, h.se, h.own.keep ho (fun q hq hs => (hS q (h.own.blk hq).2 hs).2.2.2 hq), h.vb, h.bel.trans hb, hcell _ _ h.bs.2.2.1 h.hi, hcell _ _ h.bs.2.2.2.1 h.ha, ⟨h.bs.1, h.bs.2.1, h.bs.2.2.1, h.bs.2.2.2.1, Nat.le_trans h.bs.2.2.2.2 ho.size⟩, h.is, h.el, h.few, h.lt, ?_, h.arw⟩
  exact h.arw.below (h.bel.trans hb)
theorem WkSt.below (h : WkSt w bi ba va l x0 B J A C pre ks st sl sb v) (hJ : Holds B J) (hb : Below A.heap.size A A') : WkSt w bi ba va l x0 B J A' C pre ks st sl sb v := h.only hJ (Only.of_below hb fun _ => False) fun _ _ h => h.elim
/-- one that is no node, or has been: it is passed over -/
theorem WkSt.skip {x g L c : Nat} (h : WkSt w bi ba va l x0 B J A C pre [] (x :: st) sl sb (.slice (some ⟨g, 0, none⟩) (L + 1) c)) (hcut : OwnIds B A (.slice (some ⟨g, 0, none⟩) L c) st.reverse) (hx : getA l x = none ∨ x ∈ pre.map (·.1)) :
    WkSt w bi ba va l x0 B J A C pre [] st sl sb (.slice (some ⟨g, 0, none⟩) L c) := by
  have h1 := h.is
  rw [List.nil_append, walkO_skip hx] at h1
  have h2 := h.few
  exact ⟨h.jj, h.cb, h.cs, h.mp, h.sb, h.tr, h.se, hcut, h.vb, h.bel, h.hi, h.ha, h.bs, h1, h.el, by simp at h2 ⊢; omega, fun y hy => h.lt y (List.mem_cons_of_mem _ hy), h.ar, h.arw⟩
/-- behind a round -/
theorem WkSt.round {x g L c : Nat} {n : Nd} {v' : Value} {W3 : World} {C' : Nat → Prop} (h : WkSt w bi ba va l x0 B J A C pre [] (x :: st) sl sb (.slice (some ⟨g, 0, none⟩) (L + 1) c)) (hcut : OwnIds B A (.slice (some ⟨g, 0, none⟩) L c) st.reverse)
    (hn : getA l x = some n) (hx : x ∉ pre.map (·.1)) (ok : n.Ok) (hm : MapU Try.prog 26 W3 sb (putA sl x (.bool true))) (ho : Only A W3 (fun q => q = sb)) (hr : Only W3 A' C) (hc : ∀ q, C' q → C q ∨ W3.heap.size ≤ q) (hcs : ∀ q, C' q → q < A'.heap.size)
    (hj : J (pre ++ [(x, n, v')]) C' A') : WkSt w bi ba va l x0 B J A' C' (pre ++ [(x, n, v')]) n.kids st (putA sl x (.bool true)) sb (.slice (some ⟨g, 0, none⟩) L c) := by
  have hot : Only A A' (fun q => q = sb ∨ C q) := (ho.mono fun i _ e => .inl e).trans (hr.mono fun i _ e => .inr e) fun i _ e => e
  have hCB : ∀ q, q < B → C q → w.heap.size ≤ q ∧ q ≠ bi ∧ q ≠ ba := fun q hq hc => by
    rcases h.cb q hc with h1 | h1
    · exact h1
    · omega
  have hb : Below w.heap.size A A' := hot.below _ h.bel.size fun i hi hs => by
    rcases hs with e | e
    · have := h.sb.1; have := h.bs; omega
    · have := hCB i (by have := h.bs; omega) e; omega
  have hcell : ∀ (q : Nat) (u : Value), q < B → ¬ C q → A.cell? ⟨q, 0, none⟩ = some u → A'.cell? ⟨q, 0, none⟩ = some u := fun q u hq hnc hc => by
    have hlt := block_lt_of_cell hc
    unfold World.cell? at hc ⊢
    simp only at hc hlt ⊢
    rw [hot.block q hlt fun hs => by rcases hs with e | e; (have := h.sb.1; omega); exact hnc e]
    exact hc
  have hsz : W3.heap.size ≤ A'.heap.size := hr.size
  have hsz0 : A.heap.size ≤ W3.heap.size := ho.size
  have hgB : ∀ q, (Value.slice (some ⟨g, 0, none⟩) L c).ownBlock = some q → q < A.heap.size ∧ ¬ C q ∧ q ≠ sb := fun q hq => by
    refine ⟨(hcut.blk hq).2, h.vb q hq, fun e => ?_⟩
    subst e
    obtain ⟨es, cl, hbm⟩ := h.mp.isMap
    have e1 : g = q := by simpa [Value.ownBlock] using hq
    subst e1
    obtain ⟨-, h2 | ⟨g', cap, cur, e2, -, hg, -⟩⟩ := h.own
    · exact absurd h2.1 (by simp)
    · injection e2 with e3
      injection e3 with e3
      injection e3 with e3
      subst e3
      rw [hg] at hbm
      cases hbm
  have h1 := h.is
  rw [List.nil_append, walkO_step hn hx] at h1
  have h2 := h.few
  have h3 := todo_step hn hx
  refine ⟨hj, fun q hq => ?_, hcs, hm.only hr h.sb.2, ⟨h.sb.1, fun e => ?_⟩, fun p hp => ?_, fun y => ?_, hcut.keep hot fun q hq e => ?_, fun q hq e => ?_, h.bel.trans hb, hcell _ _ h.bs.2.2.1 (fun e => (hCB _ h.bs.2.2.1 e).2.1 rfl) h.hi, hcell _ _ h.bs.2.2.2.1 (fun e => (hCB _ h.bs.2.2.2.1 e).2.2 rfl) h.ha, ⟨h.bs.1, h.bs.2.1, h.bs.2.2.1, h.bs.2.2.2.1, by have := h.bs; omega⟩, ?_, fun y hy => ?_, ?_, fun y hy => ?_, h.arw.below (h.bel.trans hb), h.arw⟩
  · rcases hc q hq with h4 | h4
    · exact h.cb q h4
    · have := h.bs; exact .inr (by omega)
  · rcases hc _ e with h4 | h4
    · exact h.sb.2 h4
    · have := h.mp.lt; omega
  · rcases mem_insA.1 hp with rfl | hp
    · rfl
    · exact h.tr p (List.mem_filter.1 hp).1
  · by_cases hy : y = x
    · subst hy
      rw [getA_put_same]
      simp
    · rw [getA_put_other _ _ _ _ hy, h.se y]
      simp [hy]
  · rcases e with e | e
    · exact (hgB q hq).2.2 e
    · exact (hgB q hq).2.1 e
  · rcases hc q e with h4 | h4
    · exact (hgB q hq).2.1 h4
    · have := (hgB q hq).1; omega
  · rw [← h1]; simp
  · rcases List.mem_append.1 hy with hy | hy
    · exact h.el y hy
    · simp at hy; subst hy; exact hn
  · simp at h2 h3 ⊢
    omega
  · rcases List.mem_append.1 hy with hy | hy
    · exact ok.ids y hy
    · exact h.lt y (List.mem_cons_of_mem _ hy)
/-- the kids are laid on what waits -/
theorem WkSt.laid {v2 : Value} (h : WkSt w bi ba va l x0 B J A C pre ks st sl sb v) (hJ : Holds B J) (hg : A.grownBy A' v.ownBlock) (hs : Stays A v v2) (hv : OwnIds B A' v2 (st.reverse ++ ks.reverse)) : WkSt w bi ba va l x0 B J A' C pre [] (ks ++ st) sl sb v2 := by
  have ho := Only.of_grown hg
  have hS : ∀ q, v.ownBlock = some q → B ≤ q ∧ ¬ C q ∧ q ≠ sb := fun q hq => by
    refine ⟨(h.own.blk hq).1, h.vb q hq, fun e => ?_⟩
    subst e
    obtain ⟨es, cl, hbm⟩ := h.mp.isMap
    obtain ⟨-, h2 | ⟨g', cap, cur, rfl, -, hg, -⟩⟩ := h.own
    · rw [h2.1] at hq; cases hq
    · have e : g' = q := by simpa [Value.ownBlock] using hq
      subst e
      rw [hg] at hbm
      cases hbm
  have hb : Below w.heap.size A A' := ho.below _ h.bel.size fun i hi hs => by
    have := hS i hs
    have := h.bs
    omega
  have hcell : ∀ (q : Nat) (u : Value), q < B → A.cell? ⟨q, 0, none⟩ = some u → A'.cell? ⟨q, 0, none⟩ = some u := fun q u hq hc => by
    have hlt := block_lt_of_cell hc
    unfold World.cell? at hc ⊢
    simp only at hc hlt ⊢
    rw [ho.block q hlt fun hs => by have := hS q hs; omega]
    exact hc
  refine ⟨hJ _ _ _ _ h.jj (ho.mono fun i hi hs => ⟨(hS i hs).1, (hS i hs).2.1⟩), h.cb, fun q hq => Nat.lt_of_lt_of_le (h.cs q hq) ho.size, h.mp.only ho (fun hs => (hS _ hs).2.2 rfl), h.sb, h.tr, h.se, by rw [List.reverse_append]; exact hv, fun q hq hc => ?_, h.bel.trans hb, hcell _ _ h.bs.2.2.1 h.hi, hcell _ _ h.bs.2.2.2.1 h.ha, ⟨h.bs.1, h.bs.2.1, h.bs.2.2.1, h.bs.2.2.2.1, Nat.le_trans h.bs.2.2.2.2 ho.size⟩, h.is, h.el, h.few, h.lt, ?_, h.arw⟩
  · rcases hs with e | e
    · rw [e] at hq; exact h.vb q hq hc
    · have := e q hq
      have := h.cs q hc
      omega
  · exact h.arw.below (h.bel.trans hb)
end

theorem seen_look {w : World} {b x : Nat} {sl : List (Nat × Value)} (h : MapU Try.prog 26 w b sl) (tr : ∀ p ∈ sl, p.2 = .bool true) (hx : x < 18446744073709551616) :
    (Instr.lookup 74 (.map (some b)) (.int .u64 x) false).run Try.prog w = .ok (.bool (getA sl x).isSome) w := by
  have h1 := h.look1 (t := 74) Try.underlying26 Try.underlying74 (z := .bool false) (by kernel_rfl) x hx
  cases hg : getA sl x with
  | none => rw [hg] at h1; exact h1
  | some v =>
    rw [hg] at h1
    have := tr _ (getA_mem hg)
    change v = _ at this
    subst this
    exact h1

open Classical in
/-- what is left to do, read off the memory -/
noncomputable def leftW (l : List (Nat × Nd)) (A : World) (s v : Value) : Nat :=
  if h : ∃ p : Nat × List (Nat × Value) × List Nat, s = .map (some p.1) ∧ MapU Try.prog 26 A p.1 p.2.1 ∧ OwnIds 0 A v p.2.2 then todo l (h.choose.2.1.map (·.1)) + h.choose.2.2.length else 0
theorem todo_congr {l : List (Nat × Nd)} {a b : List Nat} (h : ∀ x, x ∈ a ↔ x ∈ b) : todo l a = todo l b := by
  unfold todo
  congr 2
  funext p
  by_cases hp : p.1 ∈ a
  · rw [if_pos hp, if_pos ((h _).1 hp)]
  · rw [if_neg hp, if_neg fun e => hp ((h _).2 e)]
theorem leftW_eq {w : World} {bi ba : Nat} {va : Value} {l : List (Nat × Nd)} {x0 B : Nat} {J : List El → (Nat → Prop) → World → Prop} {A : World} {C : Nat → Prop} {pre : List El} {st : List Nat} {sl : List (Nat × Value)} {sb : Nat} {v : Value}
    (h : WkSt w bi ba va l x0 B J A C pre [] st sl sb v) : leftW l A (.map (some sb)) v = todo l (pre.map (·.1)) + st.length := by
  unfold leftW
  have hex : ∃ p : Nat × List (Nat × Value) × List Nat, (Value.map (some sb)) = .map (some p.1) ∧ MapU Try.prog 26 A p.1 p.2.1 ∧ OwnIds 0 A v p.2.2 := ⟨⟨sb, sl, st.reverse⟩, rfl, h.mp, h.own.base (Nat.zero_le _)⟩
  rw [dif_pos hex]
  obtain ⟨h1, h2, h3⟩ := hex.choose_spec
  generalize hex.choose = p at h1 h2 h3
  obtain ⟨b', sl', st'⟩ := p
  injection h1 with h1
  injection h1 with h1
  subst h1
  have e1 := h2.uniq h.mp
  have e2 := h3.uniq h.own
  subst e1
  subst e2
  simp only [List.length_reverse]
  congr 1
  refine todo_congr fun x => ?_
  rw [← h.se x]
  constructor
  · intro hx
    obtain ⟨p, hp, rfl⟩ := List.mem_map.1 hx
    rw [getA_of_mem h.mp.2 hp]
    rfl
  · intro hx
    obtain ⟨v, hv⟩ := Option.isSome_iff_exists.1 hx
    exact List.mem_map.2 ⟨_, getA_mem hv, rfl⟩

set_option maxRecDepth 10000 in
set_option maxHeartbeats 1600000 in
theorem walk_seq (va : Value) (l : List (Nat × Nd)) (x0 bi ba : Nat) (w w0 : World) (har : ArV w va l) (hb0 : Below w.heap.size w w0) (hi : w0.cell? ⟨bi, 0, none⟩ = some (.int .u64 x0)) (ha : w0.cell? ⟨ba, 0, none⟩ = some va)
    (hbi : w.heap.size ≤ bi) (hba : w.heap.size ≤ ba) (hx0 : x0 < 18446744073709551616) (n : Nat) :
    SeqOwn Fence.wide n Try.prog 63 #[.pointer (some ⟨bi, 0, none⟩), .pointer (some ⟨ba, 0, none⟩)] elEnc (fun x A => OwnNd w.heap.size A x.2.2 x.2.1) (fun pre x => getA l x.1 = some x.2.1 ∧ ∃ r, walkOf l x0 = pre.map (·.1) ++ x.1 :: r)
      (fun xs => xs.map (·.1) = walkOf l x0 ∧ ∀ x ∈ xs, getA l x.1 = some x.2.1) (fun xs => (∃ r, walkOf l x0 = xs.map (·.1) ++ r) ∧ ∀ x ∈ xs, getA l x.1 = some x.2.1) (fun q => w.heap.size ≤ q ∧ q ≠ bi ∧ q ≠ ba) w0 := by
  intro lp J Jx C0 W hW hJ hJx hJs hC0 hY hJ0
  have hmm := @run_makeMap Try.prog
  refine callsIn_of_wp Try.func63 rfl trivial ?_
  simp only [Try.ntmps63, List.size_toArray, List.length_cons, List.length_nil, Nat.reduceAdd, Nat.reduceSub, Array.replicate_succ, Array.replicate_zero, List.push_toArray, List.append_toArray, List.nil_append, List.cons_append]
  have hi1 := (hW.cell (p := ⟨bi, 0, none⟩) (block_lt_of_cell hi)).trans hi
  have ha1 := (hW.cell (p := ⟨ba, 0, none⟩) (block_lt_of_cell ha)).trans ha
  have hi2 := (((Below.refl _ W).alloc (Nat.le_refl _) (.map #[] 0)).cell (p := ⟨bi, 0, none⟩) (block_lt_of_cell hi1)).trans hi1
  obtain ⟨W1, hW1⟩ : ∃ W1, (W.alloc (.map #[] 0)).alloc (.cells #[.int .u64 x0] 26) = W1 := ⟨_, rfl⟩
  have hbW1 : Below W.heap.size W W1 := by rw [← hW1]; exact ((Below.refl _ W).alloc (Nat.le_refl _) _).alloc (by simp) _
  have hblk : W1.heap[W.heap.size + 1]? = some (.cells #[.int .u64 x0] 26 (0, 0)) := by
    rw [← hW1]; have := heap_alloc_new (W.alloc (.map #[] 0)) (.cells #[.int .u64 x0] 26); rwa [World.size_alloc] at this
  have hmp : MapU Try.prog 26 W1 W.heap.size [] := by rw [← hW1]; exact (MapU.new W).below ((Below.refl _ _).alloc (Nat.le_refl _) _)
  have hst : WkSt w bi ba va l x0 W.heap.size J W1 C0 [] [] [x0] [] W.heap.size (.slice (some ⟨W.heap.size + 1, 0, none⟩) 1 1) := by
    have hbw : Below w.heap.size w W1 := (hb0.trans (hW.mono hb0.size)).trans (hbW1.mono (Nat.le_trans hb0.size hW.size))
    have hcs := hJs _ _ _ hJ0
    refine ⟨hJ _ _ _ _ hJ0 ((Only.of_below hbW1 fun _ => False).mono fun _ _ h => h.elim), fun q hq => .inl (hC0 q hq), fun q hq => Nat.lt_of_lt_of_le (hcs q hq) hbW1.size, hmp, ⟨Nat.le_refl _, fun hc => Nat.lt_irrefl _ (hcs _ hc)⟩, (fun p hp => nomatch hp), fun x => by simp [getA], ⟨by simp, .inr ⟨_, 1, _, rfl, by omega, hblk, Nat.le_refl _, by unfold maxLen; omega, rfl, rfl⟩⟩, fun q hq hc => ?_, hbw, (hbW1.cell (p := ⟨bi, 0, none⟩) (block_lt_of_cell hi1)).trans hi1, (hbW1.cell (p := ⟨ba, 0, none⟩) (block_lt_of_cell ha1)).trans ha1, ⟨hbi, hba, block_lt_of_cell hi1, block_lt_of_cell ha1, hbW1.size⟩, rfl, (fun x hx => nomatch hx), ?_, fun x hx => by simp at hx; subst hx; exact hx0, har.below hbw, har⟩
    · have := hcs q hc
      simp [Value.ownBlock] at hq
      omega
    · have h1 := todo_max (fun p hp => (har.ok p hp).few) ([] : List Nat)
      have := har.few
      simp
      omega
  have HST := Lib.hid hst
  have HY := Lib.hid hY
  have HJ := Lib.hid hJ
  have HJX := Lib.hid hJx
  have HJS := Lib.hid hJs
  clear hst hmp hbW1 hblk hb0 hi ha hY hJ hJx hJs hC0 hJ0 har hi1 ha1 hbi hba hW
  gi_wp2_with fail
  try rw [hW1]
  obtain ⟨B, hB⟩ : ∃ B, B = W.heap.size := ⟨_, rfl⟩
  rw [← hB] at HST HJ HJX ⊢
  have HBD : Hid (B = W.heap.size) := Lib.hid hB
  clear hB hW1 hi2 hmm
  gi_loopw [5] (fun v wr => ∃ (C : Nat → Prop) (pre : List El) (st : List Nat) (sl : List (Nat × Value)) (a : Option Addr) (c : Nat), v = .slice a st.length c ∧ Hid (WkSt w bi ba va l x0 B J wr C pre [] st sl B v)) (fun v wr => leftW l wr (.map (some B)) v)
  case atStart => exact ⟨C0, [], [x0], [], _, 1, rfl, HST⟩
  case round =>
    clear HST
    obtain ⟨C, pre, st, sl, a, c, rfl, hst⟩ := hrel
    have hi := hst.out.hi
    have ha := hst.out.ha
    cases st with
    | nil =>
      gi_wp2_with fail
      go_end0
      exact ⟨⟨_, rfl⟩, .inl ⟨pre, C, ⟨by rw [← hst.out.is]; exact (walkO_nil _ _).symm, hst.out.el⟩, hst.out.jj⟩⟩
    | cons x st =>
      obtain ⟨g, rfl⟩ : ∃ g, a = some ⟨g, 0, none⟩ := by
        obtain ⟨-, h2 | ⟨g', cap, cur, e, -⟩⟩ := hst.out.own
        · exact absurd h2.2 (by simp)
        · injection e with e; exact ⟨g', e⟩
      have hx64 := hst.out.lt x (List.mem_cons_self ..)
      have hcell := (hst.out.own.cell (i := st.length) (x := x) (by rw [List.reverse_cons, List.getElem?_append_right (by simp)]; simp)).1
      have hcut : OwnIds B wr (.slice (some ⟨g, 0, none⟩) st.length c) st.reverse := by
        have h1 := hst.out.own
        rw [List.reverse_cons] at h1
        have h2 := h1.cut
        rwa [List.length_reverse] at h2
      have hcap := hcut.len_le
      have hfew := hst.out.few
      obtain ⟨L, hL⟩ : ∃ L, L = st.length := ⟨_, rfl⟩
      rw [← hL] at hcell hcut
      have hc1 : L + 1 ≤ c ∧ c ≤ 9223372036854775807 := by
        have := hst.out.own.len_le
        unfold maxLen at this
        simp at this
        omega
      have hL2 : L ≤ 20001000000 := by simp at hfew; omega
      have HL := Lib.hid hL
      have HST := Lib.hid hst.out
      have HCUT := Lib.hid hcut
      rw [List.length_cons, ← hL]
      rw [List.length_cons, ← hL] at HST
      have hsz : Hid (wr.heap.size = wr.heap.size) := Lib.hid rfl
      clear hst hcut hcap hfew hL hi
      obtain ⟨hc2, hc3⟩ := hc1
      gi_wp2_with fail
      refine ⟨trivial, fun h => (by cases h), ?_⟩
      refine (callsIn_wide.2 (getv_any va l x wr HST.out.ar hx64)).mono ?_
      rintro e w1 ⟨v1, rfl, ho1, hb1⟩
      obtain ⟨kv, rfl, hk, ok⟩ := ho1
      obtain ⟨ka, kc, rfl⟩ := hk.slice
      obtain ⟨nd, hnd⟩ : ∃ nd, nd = atN l x := ⟨_, rfl⟩
      rw [← hnd] at hk ok ⊢
      obtain ⟨KL, hKL⟩ : ∃ q, q = nd.kids.length := ⟨_, rfl⟩
      rw [← hKL] at hk ⊢
      unfold NdVal
      have hb2 := bal (bre w1) (.cells #[.int .u8 nd.kind, .string nd.name, .int .i64 nd.num, .int .u8 nd.typ, .int .u64 nd.ref, .slice ka KL kc] 29)
      have hr2 := heap_alloc_new w1 (.cells #[.int .u8 nd.kind, .string nd.name, .int .i64 nd.num, .int .u8 nd.typ, .int .u64 nd.ref, .slice ka KL kc] 29)
      have HST2 := Lib.hid ((HST.out.below HJ.out hb1).below HJ.out hb2)
      have HCUT2 := Lib.hid ((HCUT.out.below hb1).below hb2)
      have HKD2 := Lib.hid (hk.below hb2)
      have HOK := Lib.hid ok
      have HS2 := Lib.hid (Nat.le_trans hb1.size hb2.size)
      obtain ⟨w2, hw2⟩ : ∃ w2, w1.alloc (.cells #[.int .u8 nd.kind, .string nd.name, .int .i64 nd.num, .int .u8 nd.typ, .int .u64 nd.ref, .slice ka KL kc] 29) = w2 := ⟨_, rfl⟩
      rw [hw2] at hr2 HST2 HCUT2 HKD2 HS2
      obtain ⟨n7, hn7⟩ : ∃ q, w1.heap.size = q := ⟨_, rfl⟩
      rw [hn7] at hr2
      have HR2 : Hid (Row6 w2 n7 nd (.slice ka KL kc)) := Lib.hid hr2
      have HM2 := Lib.hid (leftW_eq HST2.out)
      have HND := Lib.hid hnd
      have HKL := Lib.hid hKL
      have HKB : Hid (∀ q, (Value.slice ka KL kc).ownBlock = some q → wr.heap.size ≤ q ∧ q < n7) := Lib.hid fun q hq => by rw [← hn7]; exact hk.blk hq
      have HN7 : Hid (wr.heap.size ≤ n7) := Lib.hid (by rw [← hn7]; exact hb1.size)
      have HBL : Hid (B < wr.heap.size) := Lib.hid HST.out.mp.lt
      have HCS : Hid (∀ q, C q → q < wr.heap.size) := Lib.hid HST.out.cs
      have HGB : Hid (g < wr.heap.size) := Lib.hid (HST.out.own.blk (q := g) rfl).2
      have HMR := Lib.hid (leftW_eq HST.out)
      clear hr2 hk ok hb1 hb2 hnd hKL ha hcell
      cases hg : getA l x with
      | none =>
        have HSK := Lib.hid (HST2.out.skip HCUT2.out (.inl hg))
        clear HST2 HM2
        rw [Option.isSome_none]
        gi_wp2_with fail
        exact ⟨⟨C, pre, st, sl, _, c, by rw [HL.out], HSK⟩, by rw [leftW_eq HSK.out, HMR.out, List.length_cons]; omega⟩
      | some nn =>
        have hnn : nn = nd := by rw [HND.out]; unfold atN; rw [hg]; rfl
        subst hnn
        have hsn := seen_look HST2.out.mp HST2.out.tr hx64
        rw [Option.isSome_some]
        by_cases hseen : x ∈ pre.map (·.1)
        · rw [(HST2.out.se x).2 hseen] at hsn
          have HSK := Lib.hid (HST2.out.skip HCUT2.out (.inr hseen))
          clear HST2 HM2 hg hseen
          gi_wp2_with fail
          exact ⟨⟨C, pre, st, sl, _, c, by rw [HL.out], HSK⟩, by rw [leftW_eq HSK.out, HMR.out, List.length_cons]; omega⟩
        · have hsf : (getA sl x).isSome = false := by
            cases h1 : (getA sl x).isSome with
            | false => rfl
            | true => exact absurd ((HST2.out.se x).1 h1) hseen
          rw [hsf] at hsn
          have hsl : sl.length < maxLen := by
            have h1 : sl.length ≤ l.length := by
              refine sub_len HST2.out.mp.2 HST2.out.ar.asc fun p hp => ?_
              have h2 := (HST2.out.se p.1).1 (by rw [getA_of_mem HST2.out.mp.2 hp]; rfl)
              obtain ⟨y, hy, hy2⟩ := List.mem_map.1 h2
              rw [← hy2, HST2.out.el y hy]
              rfl
            have := HST2.out.ar.few
            unfold maxLen
            omega
          obtain ⟨w3, hrun, hm3, ho3, hs3⟩ := HST2.out.mp.store (t := 74) Try.underlying26 Try.underlying74 x hx64 (.bool true) hsl
          obtain ⟨es, cl, hbm⟩ := HST2.out.mp.isMap
          have hno : ∀ k, k = B → ∀ cs T fr, w2.heap[k]? ≠ some (.cells cs T fr) := fun k hk cs T fr e => by subst hk; rw [hbm] at e; cases e
          have HR3 : Hid (Row6 w3 n7 nn (.slice ka KL kc)) := Lib.hid (HR2.out.only ho3 fun e => hno _ e _ _ _ HR2.out)
          have HKD3 := Lib.hid (HKD2.out.only ho3 fun k hk cs fr => hno k hk cs _ fr)
          have hc3 := HR3.out
          have y0 := hc3.c0
          have y1 := hc3.c1
          have y2 := hc3.c2
          have y3 := hc3.c3
          have y4 := hc3.c4
          have y5 := hc3.c5
          have hpre : ∃ r, walkOf l x0 = pre.map (·.1) ++ x :: r := by
            have h1 := HST2.out.is
            rw [List.nil_append, walkO_step hg hseen] at h1
            obtain ⟨r, hr⟩ := walkO_pre l (pre.map (·.1) ++ [x]) (nn.kids ++ st)
            exact ⟨r, by rw [← h1, hr, List.append_assoc]; rfl⟩
          obtain ⟨fn, tmps, assign, body, hy, hR⟩ := HY.out pre (x, nn, NdVal nn (.slice ka KL kc)) C w3 (HJ.out _ _ _ _ HST2.out.jj (ho3.mono fun i _ e => by subst e; exact ⟨Nat.le_refl _, HST2.out.sb.2⟩)) ⟨_, rfl, HKD3.out.base (Nat.le_trans (Nat.le_trans HST.out.bs.1 (Nat.le_of_lt HST.out.bs.2.2.1)) HST.out.bs.2.2.2.2), HOK.out⟩ ⟨hg, hpre⟩
          unfold elEnc NdVal at hy
          dsimp only at hy
          have HRO := Lib.hid hR
          have HG := Lib.hid hg
          have HSEEN := Lib.hid hseen
          have HM3 := Lib.hid hm3
          have HO3 := Lib.hid ho3
          have HS3 : Hid (n7 < w3.heap.size) := Lib.hid hc3.lt
          clear hR hc3 hm3 ho3 hs3 hsl hsf hseen hg hno hpre hbm
          gi_wp2_with fail
          refine ⟨fun h => (by cases h), ?_⟩
          refine HRO.out.mono ?_
          rintro e w4 ⟨ho4, C', hC', ⟨rfl, hj4⟩ | ⟨rfl, hj4⟩⟩
          · have hst4 := HST2.out.round HCUT2.out HG.out HSEEN.out HOK.out HM3.out HO3.out ho4 hC' (HJS.out _ _ _ hj4) hj4
            have hkn : ∀ q, (Value.slice ka KL kc).ownBlock = some q → ¬ C q := fun q hq hc => by have := HCS.out q hc; have := HKB.out q hq; omega
            have hk4 : OwnIds wr.heap.size w4 (.slice ka KL kc) nn.kids := HKD3.out.keep ho4 hkn
            have hr4 : Row6 w4 n7 nn (.slice ka KL kc) := HR3.out.only ho4 fun hc => by have := HCS.out _ hc; have := HN7.out; omega
            have HST4 := Lib.hid hst4
            have HK4 := Lib.hid hk4
            have HR4 := Lib.hid hr4
            have z5 := hr4.c5
            have HCN : Hid (∀ q, wr.heap.size ≤ q → q < w3.heap.size → ¬ C' q) := Lib.hid fun q h1 h2 hc => by
              rcases hC' q hc with h3 | h3
              · have := HCS.out q h3; omega
              · omega
            clear hst4 hk4 hr4 ho4 hC' hj4 hkn HST2 HCUT2 HKD2 HKD3 HR3 HR2 HRO hrun hsn y0 y1 y2 y3 y4 y5 hy
            gi_wp2_with fail
            refine ⟨trivial, fun h => (by cases h), ?_⟩
            refine (callsIn_wide.2 (idreverse_any wr.heap.size _ nn.kids w4 HK4.out)).mono ?_
            rintro e w5 ⟨rfl, hk5, ho5⟩
            have hst5 := HST4.out.only HJ.out ho5 fun q hql hq => by
              have h1 := HKB.out q hq
              have h2 := HBL.out
              have h3 := HGB.out
              refine ⟨by omega, HCN.out q h1.1 (by have := HS3.out; omega), by omega, fun e => ?_⟩
              have : g = q := by simpa [Value.ownBlock] using e
              omega
            have hr5 := HR4.out.only ho5 fun e => by have := HKB.out n7 e; omega
            have z6 := hr5.c5
            have HST5 := Lib.hid hst5
            have hb2 : st.reverse.length + nn.kids.reverse.length ≤ 17000000000000 := by
              have h1 := HST.out.few
              have h2 := HOK.out.few
              simp at h1 ⊢
              omega
            obtain ⟨v6, w6, hrun6, hv6, hg6, hs6⟩ := run_app_ids hst5.own hk5.ids 27 hst5.bs.2.2.2.2 hb2
            have HST6 := Lib.hid (hst5.laid HJ.out hg6 hs6 hv6)
            obtain ⟨a6, c6, e6⟩ := hv6.slice
            have hl6 : (st.reverse ++ nn.kids.reverse).length = (nn.kids ++ st).length := by simp; omega
            rw [hl6, List.length_append] at e6
            subst e6
            have HTD := Lib.hid (todo_step HG.out HSEEN.out)
            clear hst5 hk5 hr5 ho5 hb2 hv6 hg6 hs6 hl6 HST4 HK4 HR4 z5
            gi_wp2_with (gi_at_builtin; refine wpListIn_run rfl _ _ _ rfl _ _ _ _ rfl rfl hrun6 ?_)
            exact ⟨⟨C', _, nn.kids ++ st, _, _, c6, by rw [List.length_append], HST6⟩, by rw [leftW_eq HST6.out, HMR.out, List.length_append, List.length_cons, List.map_append]; have := HTD.out; simp only [List.map_cons, List.map_nil] at this ⊢; omega⟩
          · have hel : ∀ y ∈ pre ++ [(x, nn, NdVal nn (.slice ka KL kc))], getA l y.1 = some y.2.1 := fun y hy => by
              rcases List.mem_append.1 hy with hy | hy
              · exact HST2.out.el y hy
              · simp at hy; subst hy; exact HG.out
            have hpre : ∃ r, walkOf l x0 = (pre ++ [(x, nn, NdVal nn (.slice ka KL kc))]).map (·.1) ++ r := by
              have h1 := HST2.out.is
              rw [List.nil_append, walkO_step HG.out HSEEN.out] at h1
              obtain ⟨r, hr⟩ := walkO_pre l (pre.map (·.1) ++ [x]) (nn.kids ++ st)
              exact ⟨r, by rw [← h1, hr]; simp⟩
            have HJX4 := Lib.hid hj4
            have HEL := Lib.hid hel
            have HPRE := Lib.hid hpre
            clear hel hpre hj4 ho4 hC'
            gi_wp2_with fail
            refine bodyPost_ret (results_none rfl _ _ _) rfl ?_
            exact ⟨⟨_, rfl⟩, .inr ⟨_, C', ⟨HPRE.out, HEL.out⟩, HJX4.out⟩⟩
end Go.Proofs.Ytnbncjebmlicgaa
