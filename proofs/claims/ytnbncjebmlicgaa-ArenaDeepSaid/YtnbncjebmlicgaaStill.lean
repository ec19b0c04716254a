/- A region that draws its order, whose head only reads: a long load in the head. No program is in sight. -/
import Derived.Test.YtnbncjebmlicgaaLong
import Derived.StillTailTactics
import Derived.Great.BuildSlice
namespace Go.Proofs.Ytnbncjebmlicgaa
open Go.RowKit

theorem wpStill_load_mid {P : Program} {ops : Array Oper} {rest : List Oper} {op : Oper} {a : Act} {w : World} {Q : Act → Prop} (hgd : op.guard = none) (ty : TypeId) (x : Operand) (ho : op.op = .load ty x)
    (b o : Nat) (hx : a.eval x = .pointer (some ⟨b, o, none⟩)) (cs : List Value) (d : TypeDesc) (hc : w.rangeAt b o cs)
    (hu : P.underlying ty = some d) (hd : d.isRow = true) (hi : (P.info? ty).map (·.size) = some cs.length)
    (h : wpStill P ops w Q rest (a.put op.dst (.agg cs.toArray))) : wpStill P ops w Q (op :: rest) a := by
  refine wpStill_step fun K hK => ?_
  have hw : Region.wanted op (yielded ops a.tmps) = true := by simp [Region.wanted, hgd]
  rw [if_pos hw]
  unfold Oper.still execOp
  simp only [ho, hx, Instr.loadAt, Instr.sureAddr, Sem.run_bind, Sem.run_pure, Result.andThen_ok, run_loadVar_mid w b o ty cs d hc hu hd hi]
  exact ⟨rfl, hK _ h⟩

/-- '[]T{x}', x a long row -/
theorem wpList_buildSlice_row {P : Program} {w : World} {ops : Array Oper} {rest : List Oper} {o : Oper} {a : Act} {Q : Exit → Act → World → Prop} (hgd : o.guard = none) (t e size bytes : Nat) (T : RowTy P t e size bytes) (x : Operand)
    (ho : o.op = .buildSlice t 1 #[(0, x)]) (cs : Array Value) (hx : a.eval x = .agg cs) (hs : cs.size = size) (hsmall : size ≤ 16777216)
    (h : wpList P ops Q rest (a.put o.dst (.slice (some ⟨w.heap.size, 0, none⟩) 1 1)) (w.alloc (.cells cs e))) : wpList P ops Q (o :: rest) a w := by
  obtain ⟨i, z, hi, hz, hsz, hby, hzs⟩ := T.ex
  have hpos := T.pos
  subst hsz
  refine wpList_buildSlice hgd t e 1 #[(0, x)] ho cs i z T.ht hi hz (by omega) (by omega) ?_ h
  have := Great.fill_whole (s := i.size) hpos [.agg cs] ((Array.range (1 * i.size)).map (z.cells[· % z.cells.size]!)) (by simp only [List.mem_singleton, forall_eq]; exact hs) (by simp)
  simp only [List.zipIdx_cons, List.zipIdx_nil, List.map_cons, List.map_nil, List.flatMap_cons, List.flatMap_nil, List.append_nil, show (Value.agg cs).cells = cs from rfl] at this
  simpa [hx] using this

/-- '[]T{x}', x a long row -/
theorem wp_buildSlice_row {P : Program} {w : World} {o : Oper} {a : Act} {K : Act → World → Prop} {Q : Exit → Act → World → Prop} (t e size bytes : Nat) (T : RowTy P t e size bytes) (x : Operand)
    (ho : o.op = .buildSlice t 1 #[(0, x)]) (cs : Array Value) (hx : a.eval x = .agg cs) (hs : cs.size = size) (hsmall : size ≤ 16777216)
    (h : K (a.put o.dst (.slice (some ⟨w.heap.size, 0, none⟩) 1 1)) (w.alloc (.cells cs e))) : o.wp P a w K Q := by
  obtain ⟨i, z, hi, hz, hsz, hby, hzs⟩ := T.ex
  have hpos := T.pos
  subst hsz
  refine wp_buildSlice t e 1 #[(0, x)] ho cs i z T.ht hi hz (by omega) (by omega) ?_ h
  have := Great.fill_whole (s := i.size) hpos [.agg cs] ((Array.range (1 * i.size)).map (z.cells[· % z.cells.size]!)) (by simp only [List.mem_singleton, forall_eq]; exact hs) (by simp)
  simp only [List.zipIdx_cons, List.zipIdx_nil, List.map_cons, List.map_nil, List.flatMap_cons, List.flatMap_nil, List.append_nil, show (Value.agg cs).cells = cs from rfl] at this
  simpa [hx] using this

/-- an append to a row of one's own, and where it lies then -/
theorem wpList_app' {P : Program} {w : World} {ops : Array Oper} {rest : List Oper} {o : Oper} {a : Act} {Q : Exit → Act → World → Prop} (hgd : o.guard = none) (s x : Operand)
    (t e size bytes : Nat) (T : RowTy P t e size bytes) (ho : o.op = .call { callee := .builtin .append, args := #[s, x], argTypes := #[t, t] })
    (base : Nat) (v : Value) (n : Nat) (xs : List Value) (hs : a.eval s = v) (hown : w.ownsRow base e size v n xs)
    (ad : Addr) (m c : Nat) (news : List Value) (hx : a.eval x = .slice (some ad) m c) (hl : news.length = m * size) (hnews : ∀ j u, news[j]? = some u → w.cell? (ad.add j) = some u) (h1 : ∀ u ∈ news, u.oneCell' = true)
    (h63 : n + m ≤ maxLen) (hbytes : (n + m) * bytes ≤ 140737488355328) (hbase : base ≤ w.heap.size)
    (h : ∀ v' w', w'.ownsRow base e size v' (n + m) (xs ++ news) → w.grownBy w' v.ownBlock → Stays w v v' → wpList P ops Q rest (a.put o.dst v') w') : wpList P ops Q (o :: rest) a w := by
  obtain ⟨i, z, hi, hz, hsz, hby, hzs⟩ := T.ex
  obtain ⟨v', w', hr, h2, h3, h4⟩ := run_append_own' (P := P) (w := w) base t o.type e i z size bytes T.ht hi hz hsz hby hzs T.pos v n xs hown ad m c news hl hnews h1 h63 hbytes hbase
  refine wpList_yields hgd v' w' ?_ (h v' w' h2 h3 h4)
  unfold execOp
  simp only [ho, resolve, invoke, builtin, Sem.run_bind, Sem.run_pure, Result.andThen_ok, List.map_toArray, List.map_cons, List.map_nil, hs, hx, hr]

theorem wpList_built {P : Program} {w : World} {ops : Array Oper} {rest : List Oper} {o : Oper} {a : Act} {Q : Exit → Act → World → Prop} (hgd : o.guard = none) (t : TypeId) (parts : Array (Nat × Operand)) (ho : o.op = .build t parts)
    (vals : List (Nat × Value)) (hv : (parts.map fun (i, x) => (i, a.eval x)).toList = vals) (cells : Array Value) (hb : P.built t vals = some cells)
    (h : wpList P ops Q rest (a.put o.dst (.agg cells)) w) : wpList P ops Q (o :: rest) a w :=
  wpList_build hgd t parts ho (by rw [hv, hb]; rfl) (by rw [hv, hb]; exact h)
end Go.Proofs.Ytnbncjebmlicgaa
