/- What else may turn: an append that says where its row lies; a frame that names the blocks that may turn. No program is in sight. -/
import Derived.Test.YtnbncjebmlicgaaBase
import Derived.ArgAppend
import Derived.Laws.IdiomStrings
namespace Go.Proofs.Ytnbncjebmlicgaa
open Go.RowKit

/-- of what was there only the blocks of S may have turned -/
structure Only (w w' : World) (S : Nat → Prop) : Prop where
  os : w'.os = w.os
  tape : w'.tape = w.tape
  output : w'.output = w.output
  size : w.heap.size ≤ w'.heap.size
  block : ∀ k, k < w.heap.size → ¬ S k → w'.heap[k]? = w.heap[k]?

theorem Only.refl (w : World) (S : Nat → Prop) : Only w w S := ⟨rfl, rfl, rfl, Nat.le_refl _, fun _ _ _ => rfl⟩
theorem Only.trans {a b c : World} {S T : Nat → Prop} (h : Only a b S) (k : Only b c T) (hs : ∀ i, i < a.heap.size → T i → S i) : Only a c S :=
  ⟨k.os.trans h.os, k.tape.trans h.tape, k.output.trans h.output, Nat.le_trans h.size k.size, fun i hi hn =>
    (k.block i (Nat.lt_of_lt_of_le hi h.size) (fun ht => hn (hs i hi ht))).trans (h.block i hi hn)⟩
theorem Only.mono {a b : World} {S T : Nat → Prop} (h : Only a b S) (hs : ∀ i, i < a.heap.size → S i → T i) : Only a b T :=
  ⟨h.os, h.tape, h.output, h.size, fun i hi hn => h.block i hi (fun hs' => hn (hs i hi hs'))⟩
theorem Only.of_below {a b : World} (h : Below a.heap.size a b) (S : Nat → Prop) : Only a b S := ⟨h.os, h.tape, h.output, h.size, fun i hi _ => h.block i hi⟩
theorem Only.below {a b : World} {S : Nat → Prop} (h : Only a b S) (B : Nat) (hB : B ≤ a.heap.size) (hs : ∀ i, i < B → ¬ S i) : Below B a b :=
  ⟨h.os, h.tape, h.output, h.size, fun i hi => h.block i (Nat.lt_of_lt_of_le hi hB) (hs i hi)⟩
theorem Only.of_grown {a b : World} {row : Option Nat} (h : a.grownBy b row) : Only a b (fun k => row = some k) :=
  ⟨h.os, h.tape, h.output, h.size, fun i hi hn => h.block i hi (fun e => hn e.symm)⟩
theorem Only.setCell (w : World) (p : Addr) (u : Value) : Only w (w.setCell p u) (fun k => k = p.block) :=
  ⟨rfl, rfl, rfl, by simp [World.setCell], fun k _ hn => Below.heap_setCell _ _ _ _ hn⟩
theorem Only.drew {a b : World} {S : Nat → Prop} (h : Only a b S) : Only a b.drew S := ⟨h.os, h.tape, h.output, h.size, h.block⟩
theorem Only.drewN {a b : World} {S : Nat → Prop} (h : Only a b S) (n : Nat) : Only a (b.drewN n) S := ⟨h.os, h.tape, h.output, h.size, h.block⟩

/-- where a row of one's own lies behind an append: where it lay, or in a new block -/
def Stays (w : World) (v v' : Value) : Prop := v'.ownBlock = v.ownBlock ∨ ∀ k, v'.ownBlock = some k → w.heap.size ≤ k

theorem run_append_own' {P : Program} {w : World} (base : Nat) (t ty e : TypeId) (i : TypeInfo) (z : Value) (size bytes : Nat) (ht : P.underlying t = some (.slice e)) (hi : P.info? e = some i) (hz : i.zero = some z)
    (hsize : i.size = size) (hby : i.bytes = bytes) (hzs : z.cells.size = size) (hsz : 0 < size)
    (v : Value) (n : Nat) (xs : List Value) (hown : w.ownsRow base e size v n xs)
    (a : Addr) (m c : Nat) (news : List Value) (hl : news.length = m * size) (hnews : ∀ j u, news[j]? = some u → w.cell? (a.add j) = some u) (h1 : ∀ u ∈ news, u.oneCell' = true)
    (h63 : n + m ≤ maxLen) (hbytes : (n + m) * bytes ≤ 140737488355328) (hbase : base ≤ w.heap.size) :
    ∃ v' w', (Builtin.append_ #[t, t] ty #[v, .slice (some a) m c]).run P w = .ok v' w' ∧ w'.ownsRow base e size v' (n + m) (xs ++ news) ∧ w.grownBy w' v.ownBlock ∧ Stays w v v' := by
  rcases hown.2 with ⟨rfl, rfl⟩ | ⟨g, cap, cur, rfl, hb, hg, hn, hc, hs, hx⟩
  · have hxs : xs = [] := by simpa using hown.1
    subst hxs
    obtain ⟨v', w', hr, h2, h3, h4⟩ := run_append_own (P := P) w w.heap.size t ty e i z size bytes ht hi hz hsize hby hzs hsz (.slice none 0 0) 0 [] (World.ownsRow_nil _ _ _ _) a m c news hl hnews h1 h63 hbytes (Nat.le_refl _)
    exact ⟨v', w', hr, ownsRow_base h2 hbase, h3, .inr fun k hk => (h2.lt k hk).1⟩
  · by_cases hroom : n + m ≤ cap
    · obtain ⟨w', hr, h2, h3⟩ := run_append_fits (P := P) (w := w) base t ty e i size ht hi hsize g n cap xs hown a m c news hl hnews h1 hroom
      exact ⟨_, w', hr, h2, h3, .inl rfl⟩
    · have holds : ∀ j u, xs[j]? = some u → w.cell? ((⟨g, 0, none⟩ : Addr).add j) = some u := hown.cells rfl
      obtain ⟨v', w', hr, h2, h3⟩ := run_append_arg_grows (P := P) (w := w) t ty e i z size bytes ht hi hz hsize hby hzs hsz ⟨g, 0, none⟩ n cap xs hown.1 holds a m c news hl hnews (by omega) h63 hbytes
      exact ⟨v', w', hr, ownsRow_base h2 hbase, ⟨h3.os, h3.tape, h3.output, h3.size, fun k hk _ => h3.block k hk (by simp)⟩, .inr fun k hk => (h2.lt k hk).1⟩

/-- an append of bytes to bytes of one's own, and where they lie -/
theorem wpList_app8' {P : Program} {w : World} {ops : Array Oper} {rest : List Oper} {o : Oper} {a : Act} {Q : Exit → Act → World → Prop} (hgd : o.guard = none) (s x : Operand)
    (t e : Nat) (T : RowTy P t e 1 1) (ho : o.op = .call { callee := .builtin .append, args := #[s, x], argTypes := #[t, t] })
    (base : Nat) (v : Value) (l : List UInt8) (hs : a.eval s = v) (hown : Own8 e base w v l)
    (u : Value) (m : List UInt8) (hx : a.eval x = u) (hm : Bytes w u m) (hbytes : l.length + m.length ≤ 140737488355328) (hbase : base ≤ w.heap.size)
    (h : ∀ v' w', Own8 e base w' v' (l ++ m) → w.grownBy w' v.ownBlock → Stays w v v' → wpList P ops Q rest (a.put o.dst v') w') : wpList P ops Q (o :: rest) a w := by
  obtain ⟨ad, c, rfl, hm0, hmc, hn, hl⟩ := hm.lies
  obtain ⟨i, z, hi, hz, hsz, hby, hzs⟩ := T.ex
  cases ad with
  | none =>
    have hc0 := hn rfl
    subst hc0
    have hm0' : m = [] := List.length_eq_zero_iff.1 (by omega)
    subst hm0'
    refine wpList_append_own_none hgd s x t ho base e i 1 T.ht hi v l.length (l.map B8) hs hown hx ?_
    exact h v w (by simpa using hown) ⟨rfl, rfl, rfl, Nat.le_refl _, fun _ _ _ => rfl⟩ (.inl rfl)
  | some ad =>
    have hnews : ∀ j u, (m.map B8)[j]? = some u → w.cell? (ad.add j) = some u := by
      intro j u hu
      rcases hl with h0 | ⟨g, o', ha, hr⟩
      · rw [h0] at hu; simp at hu
      · cases ha
        rw [Addr.add_mid]
        exact hr j u hu
    obtain ⟨v', w', hr, h2, h3, h4⟩ := run_append_own' (P := P) (w := w) base t o.type e i z 1 1 T.ht hi hz hsz hby hzs T.pos v l.length (l.map B8) hown ad m.length c (m.map B8) (by simp) hnews (B8_one m) (by unfold maxLen; omega) (by omega) hbase
    refine wpList_yields hgd v' w' ?_ (h v' w' (Own8.app h2) h3 h4)
    unfold execOp
    simp only [ho, resolve, invoke, builtin, Sem.run_bind, Sem.run_pure, Result.andThen_ok, List.map_toArray, List.map_cons, List.map_nil, hs, hx, hr]

theorem Own8.isSlice {e : TypeId} {base : Nat} {w : World} {v : Value} {l : List UInt8} (h : Own8 e base w v l) : ∃ a n c, v = .slice a n c := by
  obtain ⟨a, c, rfl, _⟩ := h.bytes
  exact ⟨_, _, _, rfl⟩

/-- '[]byte(s)' -/
theorem run_text {P : Program} (w : World) (src dst e : TypeId) (s : ByteArray) (hs : P.underlying src = some .string) (hd : P.underlying dst = some (.slice e)) (he : P.underlying e = some (.int .u8)) (hsz : s.size ≤ maxLen) :
    ∃ v' w', (convert src dst (.string s)).run P w = .ok v' w' ∧ Bytes w' v' s.data.toList ∧ Below w.heap.size w w' := by
  refine ⟨_, _, run_bytes_of_string w src dst e s hs hd he, ?_, (bdr (bre w)).alloc (Nat.le_refl _) _⟩
  have hlen : s.data.toList.length = s.size := Array.length_toList
  have hcap : s.size ≤ grownCap w s.size 0 e := grownCap_ge w s.size 0 e
  refine ⟨_, _, by rw [hlen], by rw [hlen]; exact hsz, by rw [hlen]; exact hcap, fun h => (by cases h), .inr ⟨_, _, rfl, fun j x hx => ⟨B8 x, ?_, rfl⟩⟩⟩
  have hj : j < s.data.size := by have := (List.getElem?_eq_some_iff.1 hx).1; simpa using this
  rw [Nat.zero_add, cell_of_row _ w.heap.size j _ e _ (heap_alloc_new w.drew _)]
  unfold bytesRow
  rw [Array.getElem?_append_left (by simpa using hj), Array.getElem?_map]
  rw [Array.getElem?_toList] at hx
  rw [hx]
  rfl

theorem wpList_text {P : Program} {w : World} {ops : Array Oper} {rest : List Oper} {o : Oper} {a : Act} {Q : Exit → Act → World → Prop} (hgd : o.guard = none) (src dst e : TypeId) (x : Operand) (ho : o.op = .convert src dst x)
    (s : ByteArray) (hx : a.eval x = .string s) (hs : P.underlying src = some .string) (hd : P.underlying dst = some (.slice e)) (he : P.underlying e = some (.int .u8)) (hsz : s.size ≤ maxLen)
    (h : ∀ v' w', Bytes w' v' s.data.toList → Below w.heap.size w w' → wpList P ops Q rest (a.put o.dst v') w') : wpList P ops Q (o :: rest) a w := by
  obtain ⟨v', w', hr, h1, h2⟩ := run_text (P := P) w src dst e s hs hd he hsz
  refine wpList_yields hgd v' w' ?_ (h v' w' h1 h2)
  unfold execOp
  simp only [ho, hx, Sem.run_bind, hr, Result.andThen_ok]
  rfl

end Go.Proofs.Ytnbncjebmlicgaa
