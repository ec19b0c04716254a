/- Tree: plainly: level by level. -/
import Derived.Test.YtnbncjebmlicgaaArAbove
namespace Go.Proofs.Ytnbncjebmlicgaa
open Go.RowKit

/-- the kids of one node -/
def kidsF (l : List (Nat × Nd)) (i : Nat) : List Nat → List (Nat × Nat) → List Nat → Option (List (Nat × Nat) × List Nat)
  | [], dl, nx => some (dl, nx)
  | k :: ks, dl, nx => if (getA dl k).isSome = true ∨ (getA l k).isSome = false ∨ 200 ≤ (getA dl i).getD 0 then none else kidsF l i ks (putA dl k ((getA dl i).getD 0 + 1)) (nx ++ [k])
/-- one level -/
def levelF (l : List (Nat × Nd)) : List Nat → List (Nat × Nat) → List Nat → Option (List (Nat × Nat) × List Nat)
  | [], dl, nx => some (dl, nx)
  | i :: is, dl, nx => match kidsF l i (atN l i).kids dl nx with
    | none => none
    | some (dl', nx') => levelF l is dl' nx'
/-- all levels -/
def bfsF (l : List (Nat × Nd)) : Nat → List Nat → List (Nat × Nat) → Option (List (Nat × Nat))
  | 0, _, dl => some dl
  | f + 1, lv, dl => if lv = [] then some dl else match levelF l lv dl [] with
    | none => none
    | some (dl', nx) => bfsF l f nx dl'
def refsB (l : List (Nat × Nd)) : Bool := l.all fun p => p.2.ref == 0 || (getA l p.2.ref).isSome
def treeOf (l : List (Nat × Nd)) : Bool := match getA l 1 with
  | none => false
  | some r => if r.kind ≠ 1 then false else match bfsF l (2 * l.length + 3) [1] [(1, 1)] with
    | none => false
    | some dl => refsB l && decide (dl.length = l.length)

def treeEnd (l : List (Nat × Nd)) : Option (List (Nat × Nat)) → Bool
  | none => false
  | some dl => refsB l && decide (dl.length = l.length)
def bfsNext (l : List (Nat × Nd)) (f : Nat) : Option (List (Nat × Nat) × List Nat) → Option (List (Nat × Nat))
  | none => none
  | some (dl', nx) => bfsF l f nx dl'
def kidsNext (l : List (Nat × Nd)) (is : List Nat) : Option (List (Nat × Nat) × List Nat) → Option (List (Nat × Nat) × List Nat)
  | none => none
  | some (dl', nx) => levelF l is dl' nx
theorem treeOf_end {l : List (Nat × Nd)} {r : Nd} (h : getA l 1 = some r) (hk : r.kind = 1) : treeOf l = treeEnd l (bfsF l (2 * l.length + 3) [1] [(1, 1)]) := by
  unfold treeOf
  rw [h]
  show (if r.kind ≠ 1 then false else _) = _
  rw [if_neg (fun h => h hk)]
  cases bfsF l (2 * l.length + 3) [1] [(1, 1)] <;> rfl
theorem bfsF_next {l : List (Nat × Nd)} {f : Nat} {lv : List Nat} {dl : List (Nat × Nat)} (h : lv ≠ []) : bfsF l (f + 1) lv dl = bfsNext l f (levelF l lv dl []) := by
  rw [bfsF, if_neg h]
  cases levelF l lv dl [] <;> rfl

theorem field_kids (v0 v1 v2 v3 v4 v5 : Value) (w : World) : (Instr.field 29 (.agg #[v0, v1, v2, v3, v4, v5]) 5).run Try.prog w = .ok v5 w := by kernel_rfl

/-- a map of numbers -/
def IntMap (w : World) (b : Nat) (dl : List (Nat × Nat)) : Prop := ∃ dv, MapU Try.prog 26 w b dv ∧ StepA (fun v (d : Nat) => v = .int .i64 d) dv dl
theorem IntMap.only {w w' : World} {b : Nat} {dl : List (Nat × Nat)} {S : Nat → Prop} (h : IntMap w b dl) (ho : Only w w' S) (hs : ¬ S b) : IntMap w' b dl := by
  obtain ⟨dv, h1, h2⟩ := h
  exact ⟨dv, h1.only ho hs, h2⟩
theorem IntMap.below {w w' : World} {b : Nat} {dl : List (Nat × Nat)} (h : IntMap w b dl) (hb : Below w.heap.size w w') : IntMap w' b dl := h.only (Only.of_below hb fun _ => False) fun h => h
theorem IntMap.asc {w : World} {b : Nat} {dl : List (Nat × Nat)} (h : IntMap w b dl) : AscA dl := by
  obtain ⟨dv, h1, h2⟩ := h
  exact h2.asc h1.2
theorem IntMap.isMap {w : World} {b : Nat} {dl : List (Nat × Nat)} (h : IntMap w b dl) : ∃ es c, w.heap[b]? = some (.map es c) := by
  obtain ⟨dv, h1, h2⟩ := h
  exact h1.isMap
theorem IntMap.size {w : World} {b : Nat} {dl : List (Nat × Nat)} (h : IntMap w b dl) : mapSize w b = dl.length := by
  obtain ⟨dv, h1, h2⟩ := h
  rw [h1.size, h2.length]
theorem IntMap.len {w : World} {b : Nat} {dl : List (Nat × Nat)} (h : IntMap w b dl) (ty : TypeId) : (Builtin.len_ #[72] ty #[.map (some b)]).run Try.prog w = .ok (.int .i64 dl.length) w := by
  obtain ⟨dv, h1, h2⟩ := h
  have := h1.len (t := 72) Try.underlying72 ty
  rwa [h2.length] at this
theorem IntMap.look {w : World} {b : Nat} {dl : List (Nat × Nat)} (h : IntMap w b dl) (x : Nat) (hx : x < 18446744073709551616) :
    (Instr.lookup 72 (.map (some b)) (.int .u64 x) true).run Try.prog w = .ok (.tuple #[.int .i64 ((getA dl x).getD 0 : Nat), .bool (getA dl x).isSome]) w ∧
      (Instr.lookup 72 (.map (some b)) (.int .u64 x) false).run Try.prog w = .ok (.int .i64 ((getA dl x).getD 0 : Nat)) w := by
  obtain ⟨dv, h1, h2⟩ := h
  have e1 := h1.look (t := 72) Try.underlying26 Try.underlying72 (z := .int .i64 0) (by kernel_rfl) x hx
  have e2 := h1.look1 (t := 72) Try.underlying26 Try.underlying72 (z := .int .i64 0) (by kernel_rfl) x hx
  rcases h2.get x with ⟨g1, g2⟩ | ⟨v, d, g1, g2, rfl⟩
  · rw [g1] at e1 e2
    rw [g2]
    exact ⟨e1, e2⟩
  · rw [g1] at e1 e2
    rw [g2]
    exact ⟨e1, e2⟩
theorem IntMap.store {w : World} {b : Nat} {dl : List (Nat × Nat)} (h : IntMap w b dl) (x : Nat) (hx : x < 18446744073709551616) (d : Nat) (hl : dl.length ≤ 1000000) :
    ∃ w', (Instr.mapUpdate 72 (.map (some b)) (.int .u64 x) (.int .i64 d)).run Try.prog w = .ok () w' ∧ IntMap w' b (putA dl x d) ∧ Only w w' (fun q => q = b) ∧ w'.heap.size = w.heap.size := by
  obtain ⟨dv, h1, h2⟩ := h
  have hlen := h2.length
  obtain ⟨w', hrun, g1, g2, g3⟩ := h1.store (t := 72) Try.underlying26 Try.underlying72 x hx (.int .i64 d) (by unfold maxLen; omega)
  exact ⟨w', hrun, ⟨_, g1, h2.put x rfl⟩, g2, g3⟩

/-- ahead of a level -/
structure TrSt (w wr : World) (g b bd : Nat) (l : List (Nat × Nd)) (R : Option (List (Nat × Nat))) (lvv : Value) (lv : List Nat) (dl : List (Nat × Nat)) : Prop where
  ar : ArAt wr g b l
  mp : IntMap wr bd dl
  lvl : Ids wr lvv lv
  lt : ∀ x ∈ lv, x < 18446744073709551616
  sub : ∀ p ∈ dl, (getA l p.1).isSome = true
  is : ∃ f, bfsF l f lv dl = R ∧ 2 * (l.length + 1 - dl.length) + min lv.length 1 ≤ f
  ne : g ≠ bd ∧ b ≠ bd
  new : w.heap.size ≤ bd
  bel : Below w.heap.size w wr
theorem TrSt.below {w wr w' : World} {g b bd : Nat} {l : List (Nat × Nd)} {R : Option (List (Nat × Nat))} {lvv : Value} {lv : List Nat} {dl : List (Nat × Nat)} (h : TrSt w wr g b bd l R lvv lv dl) (hb : Below wr.heap.size wr w') : TrSt w w' g b bd l R lvv lv dl :=
  ⟨h.ar.below hb, h.mp.below hb, h.lvl.below hb, h.lt, h.sub, h.is, h.ne, h.new, btr h.bel hb⟩
theorem TrSt.len {w wr : World} {g b bd : Nat} {l : List (Nat × Nd)} {R : Option (List (Nat × Nat))} {lvv : Value} {lv : List Nat} {dl : List (Nat × Nat)} (h : TrSt w wr g b bd l R lvv lv dl) : dl.length ≤ l.length := sub_len h.mp.asc h.ar.asc h.sub

/-- within a level: of what was there at its start only the map at bd has turned -/
structure TrIn (w0 wx : World) (bd : Nat) (l : List (Nat × Nd)) (nv : Value) (nx : List Nat) (dl dl0 : List (Nat × Nat)) : Prop where
  only : Only w0 wx (fun q => q = bd)
  mp : IntMap wx bd dl
  own : OwnIds w0.heap.size wx nv nx
  lt : ∀ x ∈ nx, x < 18446744073709551616
  sub : ∀ p ∈ dl, (getA l p.1).isSome = true
  len : dl.length = dl0.length + nx.length
theorem TrIn.below {w0 wx w' : World} {bd : Nat} {l : List (Nat × Nd)} {nv : Value} {nx : List Nat} {dl dl0 : List (Nat × Nat)} (h : TrIn w0 wx bd l nv nx dl dl0) (hb : Below wx.heap.size wx w') : TrIn w0 w' bd l nv nx dl dl0 :=
  ⟨h.only.trans (Only.of_below hb fun q => q = bd) fun _ _ h => h, h.mp.below hb, h.own.below hb, h.lt, h.sub, h.len⟩
theorem TrSt.notId {w wr : World} {g b bd : Nat} {l : List (Nat × Nd)} {R : Option (List (Nat × Nat))} {lvv : Value} {lv : List Nat} {dl : List (Nat × Nat)} (h : TrSt w wr g b bd l R lvv lv dl) : ∀ k, k = bd → ∀ cs fr, wr.heap[k]? ≠ some (.cells cs 26 fr) := fun k hk cs fr e => by
  obtain ⟨es, c, hm⟩ := h.mp.isMap
  subst hk
  rw [hm] at e
  cases e
theorem TrSt.arIn {w w0 wx : World} {g b bd : Nat} {l : List (Nat × Nd)} {R : Option (List (Nat × Nat))} {lvv nv : Value} {lv nx : List Nat} {dl dl0 : List (Nat × Nat)} (h : TrSt w w0 g b bd l R lvv lv dl0) (hi : TrIn w0 wx bd l nv nx dl dl0) : ArAt wx g b l :=
  h.ar.only hi.only h.ne.1 h.ne.2 h.notId
theorem TrSt.belIn {w w0 wx : World} {g b bd : Nat} {l : List (Nat × Nd)} {R : Option (List (Nat × Nat))} {lvv nv : Value} {lv nx : List Nat} {dl dl0 : List (Nat × Nat)} (h : TrSt w w0 g b bd l R lvv lv dl0) (hi : TrIn w0 wx bd l nv nx dl dl0) : Below w.heap.size w wx :=
  h.bel.trans (hi.only.below w.heap.size h.bel.size fun i hi e => by have := h.new; omega)

theorem Only.base {a x c : World} {S : Nat → Prop} (h : Only a x S) (k : Below a.heap.size x c) : Only a c S :=
  ⟨k.os.trans h.os, k.tape.trans h.tape, k.output.trans h.output, Nat.le_trans h.size k.size, fun i hi hn => (k.block i hi).trans (h.block i hi hn)⟩
theorem IntMap.low {w w' : World} {b B : Nat} {dl : List (Nat × Nat)} (h : IntMap w b dl) (hb : Below B w w') (hlt : b < B) : IntMap w' b dl := by
  obtain ⟨dv, h1, h2⟩ := h
  obtain ⟨es, c, g1, g2⟩ := h1.1
  exact ⟨dv, ⟨⟨es, c, (hb.block b hlt).trans g1, g2⟩, h1.2⟩, h2⟩
theorem TrSt.lookIn {w w0 wx : World} {g b bd : Nat} {l : List (Nat × Nd)} {R : Option (List (Nat × Nat))} {lvv nv : Value} {lv nx : List Nat} {dl dl0 : List (Nat × Nat)} (h : TrSt w w0 g b bd l R lvv lv dl0) (hi : TrIn w0 wx bd l nv nx dl dl0) (x : Nat) (hx : x < 18446744073709551616) :
    ∃ kv, (Instr.lookup 68 (.map (some b)) (.int .u64 x) true).run Try.prog wx = .ok (.tuple #[NdVal (atN l x) kv, .bool (getA l x).isSome]) wx ∧
      (Instr.lookup 68 (.map (some b)) (.int .u64 x) false).run Try.prog wx = .ok (NdVal (atN l x) kv) wx ∧ OwnIds 0 w0 kv (atN l x).kids ∧ (atN l x).Ok := by
  obtain ⟨vl, h1, h2⟩ := h.ar.ex
  have h1' := h1.only hi.only h.ne.2
  have e1 := h1'.look (t := 68) Try.underlying26 Try.underlying68 (zeroNd wx) x hx
  have e2 := h1'.look1 (t := 68) Try.underlying26 Try.underlying68 (zeroNd wx) x hx
  unfold atN
  rcases h2.get x with ⟨g1, g2⟩ | ⟨v, n, g1, g2, kv, rfl, hk, ok⟩
  · rw [g1] at e1 e2
    rw [g2]
    exact ⟨_, e1, e2, OwnIds.nil _ _, Nd.zero_ok⟩
  · rw [g1] at e1 e2
    rw [g2]
    exact ⟨kv, e1, e2, hk, ok⟩
theorem TrSt.lvlIn {w w0 wx : World} {g b bd : Nat} {l : List (Nat × Nd)} {R : Option (List (Nat × Nat))} {lvv nv : Value} {lv nx : List Nat} {dl dl0 : List (Nat × Nat)} (h : TrSt w w0 g b bd l R lvv lv dl0) (hi : TrIn w0 wx bd l nv nx dl dl0) (j x : Nat) (hj : lv[j]? = some x) :
    ∃ gb ob n c, lvv = .slice (some ⟨gb, ob, none⟩) n c ∧ wx.cell? ⟨gb, ob + j, none⟩ = some (.int .u64 x) := by
  obtain ⟨a, c, rfl, -, -, -, hr⟩ := h.lvl
  rcases hr with h0 | ⟨gb, ob, rfl, hr⟩
  · rw [h0] at hj; cases hj
  · obtain ⟨u, hu, rfl⟩ := hr j x hj
    refine ⟨gb, ob, _, _, rfl, ?_⟩
    have hlt := block_lt_of_cell hu
    have hne : ¬ gb = bd := fun e => by
      obtain ⟨es, cc, hm⟩ := h.mp.isMap
      subst e
      unfold World.cell? at hu
      rw [hm] at hu
      cases hu
    have hb := hi.only.block gb hlt hne
    have h9 : wx.cell? ⟨gb, ob + j, none⟩ = w0.cell? ⟨gb, ob + j, none⟩ := by
      unfold World.cell?
      simp only [hb]
    exact h9.trans hu
theorem ids_one (w : World) (x : Nat) : Ids (w.alloc (.cells #[.int .u64 x] 26)) (.slice (some ⟨w.heap.size, 0, none⟩) 1 1) [x] := by
  refine ⟨_, _, rfl, by simp [maxLen], Nat.le_refl _, (fun h => nomatch h), .inr ⟨_, _, rfl, fun j y hy => ?_⟩⟩
  rcases j with _ | j
  · cases hy
    exact ⟨_, cell_of_row _ _ 0 _ _ _ (heap_alloc_new w _), rfl⟩
  · cases hy
theorem Ids.cell {w : World} {v : Value} {l : List Nat} (h : Ids w v l) (m x : Nat) (hm : l[m]? = some x) : ∃ g o c, v = .slice (some ⟨g, o, none⟩) l.length c ∧ w.cell? ⟨g, o + m, none⟩ = some (.int .u64 x) := by
  obtain ⟨a, c, rfl, -, -, -, hr⟩ := h
  rcases hr with h0 | ⟨gb, ob, rfl, hr⟩
  · rw [h0] at hm; cases hm
  · obtain ⟨u, hu, rfl⟩ := hr m x hm
    exact ⟨gb, ob, c, rfl, hu⟩
theorem TrIn.more {w0 wx w5 w6 w7 : World} {bd k d : Nat} {l : List (Nat × Nd)} {nv v' : Value} {nx : List Nat} {dl dl0 : List (Nat × Nat)} (h : TrIn w0 wx bd l nv nx dl dl0) (hb5 : Below wx.heap.size wx w5) (ho6 : Only w5 w6 (fun q => q = bd)) (hm6 : IntMap w6 bd (putA dl k d))
    (hb7 : Below w0.heap.size w6 w7) (hlt : bd < w0.heap.size) (ho7 : OwnIds w0.heap.size w7 v' (nx ++ [k])) (hk : k < 18446744073709551616) (hkl : (getA l k).isSome = true) (hkd : getA dl k = none) : TrIn w0 w7 bd l v' (nx ++ [k]) (putA dl k d) dl0 := by
  have h5 := h.below hb5
  refine ⟨(h5.only.trans ho6 fun _ _ h => h).base hb7, hm6.low hb7 hlt, ho7, fun x hx => ?_, fun p hp => ?_, ?_⟩
  · rcases List.mem_append.1 hx with hx | hx
    · exact h.lt x hx
    · rw [List.mem_singleton.1 hx]; exact hk
  · rcases mem_insA.1 hp with rfl | hp
    · exact hkl
    · exact h.sub p (List.mem_filter.1 hp).1
  · unfold putA
    rw [length_insA, delA_not _ _ hkd, List.length_append, h.len]
    simp
    omega
def sliceLen : Value → Nat
  | .slice _ n _ => n
  | _ => 0
theorem Ids.slice {w : World} {v : Value} {l : List Nat} (h : Ids w v l) : ∃ a c, v = .slice a l.length c := by
  obtain ⟨a, c, e, -⟩ := h
  exact ⟨a, c, e⟩

theorem TrSt.next {w w0 wx : World} {g b bd f : Nat} {l : List (Nat × Nd)} {R : Option (List (Nat × Nat))} {lvv nv : Value} {lv nx : List Nat} {dl dl0 : List (Nat × Nat)} (h : TrSt w w0 g b bd l R lvv lv dl0) (hi : TrIn w0 wx bd l nv nx dl dl0)
    (hf : bfsF l f nx dl = R) (hl : 2 * (l.length + 1 - dl0.length) ≤ f) : TrSt w wx g b bd l R nv nx dl ∧ 2 * (l.length + 1 - mapSize wx bd) + min nx.length 1 < 2 * (l.length + 1 - mapSize w0 bd) + 1 := by
  have h1 := h.len
  have h2 : dl.length ≤ l.length := sub_len hi.mp.asc h.ar.asc hi.sub
  have h3 := hi.len
  refine ⟨⟨h.arIn hi, hi.mp, hi.own.ids, hi.lt, hi.sub, ⟨f, hf, by omega⟩, h.ne, h.new, h.belIn hi⟩, ?_⟩
  rw [hi.mp.size, h.mp.size]
  omega
theorem TrSt.done {w w0 : World} {g b bd : Nat} {l : List (Nat × Nd)} {R : Option (List (Nat × Nat))} {lvv : Value} {lv : List Nat} {dl : List (Nat × Nat)} (h : TrSt w w0 g b bd l R lvv lv dl) (hl : lv = []) : R = some dl := by
  obtain ⟨f, hf, -⟩ := h.is
  subst hl
  rw [← hf]
  cases f with
  | zero => rfl
  | succ f => rw [bfsF, if_pos rfl]

theorem ArRng.lookB {w : World} {g b r : Nat} {l : List (Nat × Nd)} {vl : List (Nat × Value)} {left : Nat → Bool} (h : ArRng w g b r l vl left) (x : Nat) (hx : x < 18446744073709551616) :
    ∃ a n c, ∀ w', Below w.heap.size w w' → (Instr.lookup 68 (.map (some b)) (.int .u64 x) true).run Try.prog w' = .ok (.tuple #[NdVal (atN l x) (.slice a n c), .bool (getA l x).isSome]) w' := by
  have key : ∀ w', Below w.heap.size w w' → _ := fun w' hb => (h.rng.map.below hb).look (t := 68) Try.underlying26 Try.underlying68 (zeroNd w') x hx
  unfold atN
  rcases h.step.get x with ⟨g1, g2⟩ | ⟨v, n, g1, g2, kv, rfl, hk, ok⟩
  · rw [g2]
    rw [g1] at key
    exact ⟨_, _, _, key⟩
  · rw [g2]
    rw [g1] at key
    obtain ⟨a, c, rfl⟩ := hk.slice
    exact ⟨_, _, _, key⟩

theorem levelF_cons (l : List (Nat × Nd)) (lv : List Nat) (j i : Nat) (dl : List (Nat × Nat)) (nx : List Nat) (h : lv[j]? = some i) :
    levelF l (lv.drop j) dl nx = kidsNext l (lv.drop (j + 1)) (kidsF l i (atN l i).kids dl nx) := by
  obtain ⟨hj, he⟩ := List.getElem?_eq_some_iff.1 h
  rw [List.drop_eq_getElem_cons hj, he, levelF]
  cases kidsF l i (atN l i).kids dl nx <;> rfl
theorem kidsF_cons (l : List (Nat × Nd)) (i : Nat) (ks : List Nat) (m k : Nat) (dl : List (Nat × Nat)) (nx : List Nat) (h : ks[m]? = some k) :
    kidsF l i (ks.drop m) dl nx = if (getA dl k).isSome = true ∨ (getA l k).isSome = false ∨ 200 ≤ (getA dl i).getD 0 then none else kidsF l i (ks.drop (m + 1)) (putA dl k ((getA dl i).getD 0 + 1)) (nx ++ [k]) := by
  obtain ⟨hj, he⟩ := List.getElem?_eq_some_iff.1 h
  rw [List.drop_eq_getElem_cons hj, he, kidsF]
end Go.Proofs.Ytnbncjebmlicgaa
