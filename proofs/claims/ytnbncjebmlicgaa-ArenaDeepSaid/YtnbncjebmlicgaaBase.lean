/- Slices that are read: what lies where a slice points to, whatever its kind; what stays when memory grows. No program is in sight. -/
import Derived.WalkKit
import Derived.WalkSpells
import Derived.LoopTactic
import Derived.Lib.Hide
import Derived.Deep.WholeRow
import Derived.Deep.MidRow
import Derived.Laws.CopyOwn
import Derived.Laws.AppendOwnNone
import Derived.Laws.BytesString
import Derived.Deep.Draws
namespace Go.Proofs.Ytnbncjebmlicgaa
open Go.RowKit

def B8 (b : UInt8) : Value := .int .u8 (b.toNat : Int)

/-- the cells cs lie where the address points to -/
def Lies (w : World) (a : Option Addr) (cs : List Value) : Prop := cs = [] ∨ ∃ g o, a = some ⟨g, o, none⟩ ∧ w.rangeAt g o cs

/-- a slice of one-cell elements, each of which stands for one of l -/
def SliceOf {α : Type} (R : World → Value → α → Prop) (w : World) (v : Value) (l : List α) : Prop :=
  ∃ a c, v = .slice a l.length c ∧ l.length ≤ maxLen ∧ l.length ≤ c ∧ (a = none → c = 0) ∧ (l = [] ∨ ∃ g o, a = some ⟨g, o, none⟩ ∧ ∀ j x, l[j]? = some x → ∃ u, w.cell? ⟨g, o + j, none⟩ = some u ∧ R w u x)

/-- a slice of bytes -/
def Bytes (w : World) (v : Value) (l : List UInt8) : Prop := SliceOf (fun _ u b => u = B8 b) w v l

theorem SliceOf.mono {α : Type} {R S : World → Value → α → Prop} {w w' : World} {v : Value} {l : List α} (h : SliceOf R w v l) (hb : Below w.heap.size w w')
    (hR : ∀ u x, x ∈ l → R w u x → S w' u x) : SliceOf S w' v l := by
  obtain ⟨a, c, rfl, hm, hc, hn, h⟩ := h
  refine ⟨a, c, rfl, hm, hc, hn, ?_⟩
  rcases h with h | ⟨g, o, ha, h⟩
  · exact .inl h
  · refine .inr ⟨g, o, ha, fun j x hx => ?_⟩
    obtain ⟨u, hu, hr⟩ := h j x hx
    exact ⟨u, (hb.cell (block_lt_of_cell hu)).trans hu, hR u x (List.mem_of_getElem? hx) hr⟩

theorem Bytes.below {w w' : World} {v : Value} {l : List UInt8} (h : Bytes w v l) (hb : Below w.heap.size w w') : Bytes w' v l := SliceOf.mono h hb fun _ _ _ h => h

/-- rows of bytes -/
def Rows8 (w : World) (v : Value) (ls : List (List UInt8)) : Prop := SliceOf Bytes w v ls
theorem Rows8.below {w w' : World} {v : Value} {l : List (List UInt8)} (h : Rows8 w v l) (hb : Below w.heap.size w w') : Rows8 w' v l := SliceOf.mono h hb fun _ _ _ h => h.below hb

theorem take_snoc_u8 {α : Type} (l : List α) (k : Nat) (h : k < l.length) : l.take (k + 1) = l.take k ++ [l[k]] := List.take_succ_eq_append_getElem h

/-! ### Rows of one's own, and append -/

/-- what an append asks of a slice's type t, its element type e -/
structure RowTy (P : Program) (t e size bytes : Nat) : Prop where
  ht : P.underlying t = some (.slice e)
  ex : ∃ i z, P.info? e = some i ∧ i.zero = some z ∧ i.size = size ∧ i.bytes = bytes ∧ z.cells.size = size
  pos : 0 < size

theorem RowTy.mk' {P : Program} {t e size bytes : Nat} {z : Value} (ht : P.underlying t = some (.slice e)) (hi : (P.info? e).map (fun i => (i.zero, i.size, i.bytes)) = some (some z, size, bytes))
    (hz : z.cells.size = size) (hp : 0 < size) : RowTy P t e size bytes := by
  obtain ⟨i, h1, h2, h3, h4⟩ := info_parts hi
  exact ⟨ht, ⟨i, z, h1, h2, h3, h4, hz⟩, hp⟩

theorem ownsRow_base {w : World} {base base' : Nat} {e : TypeId} {size : Nat} {v : Value} {n : Nat} {xs : List Value} (h : w.ownsRow base e size v n xs) (hb : base' ≤ base) : w.ownsRow base' e size v n xs := by
  refine ⟨h.1, ?_⟩
  rcases h.2 with h | ⟨g, cap, cur, h1, h2, h3⟩
  · exact .inl h
  · exact .inr ⟨g, cap, cur, h1, Nat.le_trans hb h2, h3⟩

theorem ownsRow_lies {w : World} {base : Nat} {e : TypeId} {size : Nat} {v : Value} {n : Nat} {xs : List Value} (h : w.ownsRow base e size v n xs) :
    ∃ a c, v = .slice a n c ∧ n ≤ c ∧ c ≤ maxLen ∧ (a = none → c = 0) ∧ Lies w a xs ∧ (∀ g o s, a = some ⟨g, o, s⟩ → base ≤ g ∧ g < w.heap.size ∧ o = 0 ∧ s = none) := by
  rcases h.2 with ⟨rfl, rfl⟩ | ⟨g, cap, cur, rfl, hb, hg, hn, hc, hs, ht⟩
  · exact ⟨none, 0, rfl, Nat.le_refl _, Nat.zero_le _, fun _ => rfl, .inl (by simpa using h.1), fun g o s hh => by cases hh⟩
  · refine ⟨_, cap, rfl, hn, hc, fun h => (by cases h), .inr ⟨g, 0, rfl, fun j v hv => ?_⟩, fun g' o' s' e => by cases e; exact ⟨hb, (Array.getElem?_eq_some_iff.1 hg).1, rfl, rfl⟩⟩
    have := h.cells (g := g) rfl j v hv
    rwa [Addr.add_mid] at this

/-- an append to a row of one's own, whatever the source is -/
theorem wpList_app {P : Program} {w : World} {ops : Array Oper} {rest : List Oper} {o : Oper} {a : Act} {Q : Exit → Act → World → Prop} (hgd : o.guard = none) (s x : Operand)
    (t e size bytes : Nat) (T : RowTy P t e size bytes) (ho : o.op = .call { callee := .builtin .append, args := #[s, x], argTypes := #[t, t] })
    (base : Nat) (v : Value) (n : Nat) (xs : List Value) (hs : a.eval s = v) (hown : w.ownsRow base e size v n xs)
    (ad : Option Addr) (m c : Nat) (news : List Value) (hx : a.eval x = .slice ad m c) (hl : news.length = m * size) (hlies : Lies w ad news) (hcap : m ≤ c) (hnil : ad = none → c = 0) (h1 : ∀ u ∈ news, u.oneCell' = true)
    (h63 : n + m ≤ maxLen) (hbytes : (n + m) * bytes ≤ 140737488355328) (hbase : base ≤ w.heap.size)
    (h : ∀ v' w', w'.ownsRow base e size v' (n + m) (xs ++ news) → w.grownBy w' v.ownBlock → Below base w w' → wpList P ops Q rest (a.put o.dst v') w') : wpList P ops Q (o :: rest) a w := by
  obtain ⟨i, z, hi, hz, hsz, hby, hzs⟩ := T.ex
  have fin : ∀ v' w', w'.ownsRow base e size v' (n + m) (xs ++ news) → w.grownBy w' v.ownBlock → wpList P ops Q rest (a.put o.dst v') w' := fun v' w' h2 h3 =>
    h v' w' h2 h3 ((Below.refl base w).grown h3 hbase (fun k hk => (hown.lt k hk).1))
  cases ad with
  | none =>
    have hc0 := hnil rfl
    subst hc0
    have hm : m = 0 := by omega
    subst hm
    have hn0 : news = [] := by simpa using hl
    subst hn0
    refine wpList_append_own_none hgd s x t ho base e i size T.ht hi v n xs hs hown hx ?_
    exact fin v w (by simpa using hown) ⟨rfl, rfl, rfl, Nat.le_refl _, fun _ _ _ => rfl⟩
  | some ad =>
    refine wpList_append_own w hgd s x t ho base e i z size bytes T.ht hi hz hsz hby hzs T.pos v n xs hs hown ad m c news hx hl ?_ h1 h63 hbytes hbase (fun v' w' h2 h3 _ => fin v' w' h2 h3)
    intro j u hu
    rcases hlies with h0 | ⟨g, o', ha, hr⟩
    · subst h0; simp at hu
    · cases ha
      rw [Addr.add_mid]
      exact hr j u hu

theorem lies_one (w : World) (x : Value) (t : TypeId) : Lies (w.alloc (.cells #[x] t)) (some ⟨w.heap.size, 0, none⟩) [x] :=
  .inr ⟨_, _, rfl, fun j u hu => by
    have := World.cell?_alloc_new w #[x] t j
    rw [Nat.zero_add, this]
    simpa using hu⟩

/-! ### Bytes of one's own -/
def Own8 (e : TypeId) (base : Nat) (w : World) (v : Value) (l : List UInt8) : Prop := w.ownsRow base e 1 v l.length (l.map B8)

theorem B8_one (l : List UInt8) : ∀ u ∈ l.map B8, u.oneCell' = true := by
  intro u hu
  obtain ⟨b, _, rfl⟩ := List.mem_map.1 hu
  rfl

theorem Own8.bytes {e : TypeId} {base : Nat} {w : World} {v : Value} {l : List UInt8} (h : Own8 e base w v l) : Bytes w v l := by
  obtain ⟨a, c, rfl, hc, hm, hn, hl, _⟩ := ownsRow_lies h
  refine ⟨a, c, rfl, Nat.le_trans hc hm, hc, hn, ?_⟩
  rcases hl with h0 | ⟨g, o, ha, hr⟩
  · exact .inl (by simpa using h0)
  · exact .inr ⟨g, o, ha, fun j x hx => ⟨B8 x, hr j _ (by simp [hx]), rfl⟩⟩

theorem Own8.nil (e : TypeId) (base : Nat) (w : World) : Own8 e base w (.slice none 0 0) [] := World.ownsRow_nil _ _ _ _

theorem Own8.kept {e : TypeId} {base base' : Nat} {w w' : World} {v : Value} {l : List UInt8} (h : Own8 e base w v l) (hb : base' ≤ base) (hB : Below w.heap.size w w') : Own8 e base' w' v l := by
  refine ownsRow_base (World.ownsRow.kept (row := none) h ⟨hB.os, hB.tape, hB.output, hB.size, fun k hk _ => hB.block k hk⟩ ?_) hb
  cases v.ownBlock <;> simp

/-- what is read of a slice of bytes -/
theorem Bytes.lies {w : World} {v : Value} {l : List UInt8} (h : Bytes w v l) : ∃ a c, v = .slice a l.length c ∧ l.length ≤ maxLen ∧ l.length ≤ c ∧ (a = none → c = 0) ∧ Lies w a (l.map B8) := by
  obtain ⟨a, c, rfl, hm, hc, hn, h⟩ := h
  refine ⟨a, c, rfl, hm, hc, hn, ?_⟩
  rcases h with h | ⟨g, o, ha, h⟩
  · exact .inl (by simpa using h)
  · refine .inr ⟨g, o, ha, fun j u hu => ?_⟩
    simp only [List.getElem?_map, Option.map_eq_some_iff] at hu
    obtain ⟨x, hx, rfl⟩ := hu
    obtain ⟨u, hu, rfl⟩ := h j x hx
    exact hu

theorem Own8.snoc {e : TypeId} {base : Nat} {w : World} {v : Value} {l : List UInt8} {b : UInt8} (h : w.ownsRow base e 1 v (l.length + 1) (l.map B8 ++ [B8 b])) : Own8 e base w v (l ++ [b]) := by
  unfold Own8; simpa using h
theorem Own8.app {e : TypeId} {base : Nat} {w : World} {v : Value} {l m : List UInt8} (h : w.ownsRow base e 1 v (l.length + m.length) (l.map B8 ++ m.map B8)) : Own8 e base w v (l ++ m) := by
  unfold Own8; simpa using h

theorem bytes_one (w : World) (b : UInt8) (e : TypeId) : Bytes (w.alloc (.cells #[B8 b] e)) (.slice (some ⟨w.heap.size, 0, none⟩) 1 1) [b] :=
  ⟨_, 1, rfl, by simp [maxLen], Nat.le_refl _, fun h => (by cases h), .inr ⟨_, _, rfl, fun j x hx => ⟨B8 x, by
    have := World.cell?_alloc_new w #[B8 b] e j
    rw [Nat.zero_add, this]
    have : j = 0 := by have := (List.getElem?_eq_some_iff.1 hx).1; simpa using this
    subst this
    simp at hx
    subst hx
    rfl, rfl⟩⟩⟩

/-- an append of bytes to bytes of one's own -/
theorem wpList_app8 {P : Program} {w : World} {ops : Array Oper} {rest : List Oper} {o : Oper} {a : Act} {Q : Exit → Act → World → Prop} (hgd : o.guard = none) (s x : Operand)
    (t e : Nat) (T : RowTy P t e 1 1) (ho : o.op = .call { callee := .builtin .append, args := #[s, x], argTypes := #[t, t] })
    (base : Nat) (v : Value) (l : List UInt8) (hs : a.eval s = v) (hown : Own8 e base w v l)
    (u : Value) (m : List UInt8) (hx : a.eval x = u) (hm : Bytes w u m) (hbytes : l.length + m.length ≤ 140737488355328) (hbase : base ≤ w.heap.size)
    (h : ∀ v' w', Own8 e base w' v' (l ++ m) → w.grownBy w' v.ownBlock → Below base w w' → wpList P ops Q rest (a.put o.dst v') w') : wpList P ops Q (o :: rest) a w := by
  obtain ⟨ad, c, rfl, hm0, hmc, hn, hl⟩ := hm.lies
  exact wpList_app hgd s x t e 1 1 T ho base v l.length (l.map B8) hs hown ad m.length c (m.map B8) hx (by simp) hl hmc hn (B8_one m) (by unfold maxLen; omega) (by omega) hbase
    (fun v' w' h1 h2 h3 => h v' w' (Own8.app h1) h2 h3)

/-- the string of some bytes -/
def strOf (l : List UInt8) : ByteArray := ⟨l.toArray⟩

theorem strOf_toList (l : List UInt8) : (strOf l).toList = l := by
  rw [ByteArray.toList_eq]; rfl

theorem foldl_push (l : List UInt8) : ∀ s : ByteArray, (l.map fun b => (b.toNat : Int)).foldl (fun r n => r.push (UInt8.ofNat n.toNat)) s = ⟨s.data ++ l.toArray⟩ := by
  induction l with
  | nil => intro s; simp
  | cons b l ih =>
    intro s
    rw [List.map_cons, List.foldl_cons, ih]
    congr 1
    simp [ByteArray.push]

theorem run_str {P : Program} (w : World) (src dst e : TypeId) (v : Value) (p : List UInt8) (hv : Bytes w v p)
    (hs : P.underlying src = some (.slice e)) (he : P.underlying e = some (.int .u8)) (hd : P.underlying dst = some .string) :
    (convert src dst v).run P w = .ok (.string (strOf p)) w := by
  obtain ⟨a, c, rfl, hm, hc, hn, hl⟩ := hv.lies
  rw [run_convert_bytes_string w src dst e a _ c hs he hd]
  cases a with
  | none =>
    have hc0 := hn rfl
    subst hc0
    have hp : p = [] := List.length_eq_zero_iff.1 (by omega)
    subst hp
    rfl
  | some ad =>
    have hload : (loadCells ad p.length).run P w = .ok ((p.map fun b => (b.toNat : Int)).map (Value.int .u8)).toArray w := by
      have h := run_loadCells_list (P := P) w ad (p.map B8) (fun j u hu => by
        rcases hl with h0 | ⟨g, o, ha, hr⟩
        · rw [h0] at hu; simp at hu
        · cases ha
          rw [Addr.add_mid]
          exact hr j u hu)
      rw [List.length_map] at h
      rw [h, List.map_map]
      rfl
    rw [run_bytesToString w ad p.length c _ hload, foldl_push]
    have he' : ByteArray.empty.data = #[] := rfl
    rw [he']
    simp [strOf]

/-- a literal of bytes -/
theorem own8_lit (e : TypeId) (w : World) (cs : Array Value) (l : List UInt8) (n : Nat) (h : cs.toList = l.map B8) (hn : n = l.length) (hm : l.length ≤ maxLen) :
    Own8 e w.heap.size (w.alloc (.cells cs e)) (.slice (some ⟨w.heap.size, 0, none⟩) n n) l := by
  subst hn
  have hs : cs.size = l.length := by rw [← Array.length_toList, h, List.length_map]
  refine ⟨by simp, .inr ⟨w.heap.size, l.length, cs, rfl, Nat.le_refl _, heap_alloc_new w _, Nat.le_refl _, hm, by omega, ?_⟩⟩
  rw [Nat.mul_one, h, List.take_of_length_le (by simp)]

theorem SliceOf.firsts {α : Type} {R : World → Value → α → Prop} {w : World} {a : Option Addr} {n c : Nat} {l : List α} (h : SliceOf R w (.slice a n c) l) (m : Nat) (hm : m ≤ l.length) : SliceOf R w (.slice a m c) (l.take m) := by
  obtain ⟨a', c', e, h1, h2, h3, h4⟩ := h
  cases e
  refine ⟨a, c, by rw [List.length_take, Nat.min_eq_left hm], by rw [List.length_take]; omega, by rw [List.length_take]; omega, h3, ?_⟩
  rcases h4 with h4 | ⟨g, o, ha, h4⟩
  · left; simp [h4]
  · refine .inr ⟨g, o, ha, fun j x hx => h4 j x ?_⟩
    rw [List.getElem?_take] at hx
    split at hx
    · exact hx
    · cases hx

theorem rangeAt_below {w w' : World} {B b o : Nat} {cs : List Value} (h : w.rangeAt b o cs) (hb : Below B w w') (hlt : b < B) : w'.rangeAt b o cs :=
  fun j v hv => (hb.cell (p := ⟨b, o + j, none⟩) hlt).trans (h j v hv)

theorem rangeAt_new (w : World) (cs : List Value) (t : TypeId) (n : Nat) (hn : n = w.heap.size) : (w.alloc (.cells cs.toArray t)).rangeAt n 0 cs := fun j v hv => by
  subst hn
  rw [Nat.zero_add, World.cell?_alloc_new w cs.toArray t j]
  simpa using hv

theorem below_draw {w w' : World} {B : Nat} (h : Below B w w') : Below B w w'.drew := h.drew

/-- a whole row into the block that was made last -/
theorem wpList_store_new {P : Program} {w : World} {ops : Array Oper} {rest : List Oper} {o : Oper} {a : Act} {Q : Exit → Act → World → Prop} (hgd : o.guard = none) (ty : TypeId) (x y : Operand) (ho : o.op = .store ty x y)
    (z cells : Array Value) (n : Nat) (hn : n = w.heap.size) (hx : a.eval x = .pointer (some ⟨n, 0, none⟩)) (hy : a.eval y = .agg cells) (hi : (P.info? ty).map (·.size) = some cells.size)
    (hz : z.size = cells.size) (h1 : cells.all (·.oneCell') = true) (h : wpList P ops Q rest (a.put o.dst undef) (w.alloc (.cells cells ty))) : wpList P ops Q (o :: rest) a (w.alloc (.cells z ty)) := by
  subst hn
  refine wpList_store_row hgd ty x y ho w.heap.size cells hx hy ty z (heap_alloc_new w _) hi hz h1 ?_
  rw [World.setRow_alloc_new]
  exact h

theorem Bytes.suffix {w : World} {a : Option Addr} {n c : Nat} {l : List UInt8} (h : Bytes w (.slice a n c) l) (m : Nat) (hm : m ≤ l.length) :
    Bytes w (.slice (if c = m then a else a.map (·.add m)) (n - m) (c - m)) (l.drop m) := by
  obtain ⟨a', c', e, h1, h2, h3, h4⟩ := h
  cases e
  refine ⟨_, _, by rw [List.length_drop], by rw [List.length_drop]; omega, by rw [List.length_drop]; omega, ?_, ?_⟩
  · intro h
    split at h
    · omega
    · cases a with
      | none => have := h3 rfl; omega
      | some a => simp at h
  · rcases h4 with h4 | ⟨g, o, ha, h4⟩
    · left; simp [h4]
    · subst ha
      by_cases hl : l.drop m = []
      · exact .inl hl
      · have hlt : m < l.length := by
          rcases Nat.lt_or_ge m l.length with h | h
          · exact h
          · exact absurd (List.drop_eq_nil_of_le h) hl
        right
        rw [if_neg (by omega)]
        refine ⟨g, o + m, by rw [Option.map_some, Addr.add_mid], fun j x hx => ?_⟩
        rw [List.getElem?_drop] at hx
        rw [Nat.add_assoc]
        exact h4 _ x hx

/-- two rows of bytes in a new block -/
theorem rows_lit (w : World) (cs : List Value) (ls : List (List UInt8)) (e : TypeId) (n k : Nat) (hn : n = w.heap.size) (hk : k = ls.length) (hl : cs.length = ls.length) (hm : ls.length ≤ maxLen)
    (h : ∀ (j : Nat) v l, cs[j]? = some v → ls[j]? = some l → Bytes w v l) : Rows8 (w.alloc (.cells cs.toArray e)) (.slice (some ⟨n, 0, none⟩) k k) ls := by
  subst hn hk
  refine ⟨_, _, rfl, hm, Nat.le_refl _, fun h => (by cases h), .inr ⟨_, _, rfl, fun j x hx => ?_⟩⟩
  have hj : j < cs.length := by have := (List.getElem?_eq_some_iff.1 hx).1; omega
  refine ⟨cs[j], ?_, (h j _ x (List.getElem?_eq_getElem hj) hx).below ((Below.refl _ _).alloc (Nat.le_refl _) _)⟩
  rw [Nat.zero_add, World.cell?_alloc_new w cs.toArray e j]
  simp [hj]

theorem rows_lit2 (w : World) (v1 v2 : Value) (l1 l2 : List UInt8) (e : TypeId) (n : Nat) (hn : n = w.heap.size) (h1 : Bytes w v1 l1) (h2 : Bytes w v2 l2) :
    Rows8 (w.alloc (.cells #[v1, v2] e)) (.slice (some ⟨n, 0, none⟩) 2 2) [l1, l2] :=
  rows_lit w [v1, v2] [l1, l2] e n 2 hn rfl rfl (by simp [maxLen]) fun j v l hv hl => by
    match j with
    | 0 => simp at hv hl; subst hv hl; exact h1
    | 1 => simp at hv hl; subst hv hl; exact h2
    | j + 2 => simp at hv

theorem rows_lit1 (w : World) (v : Value) (l : List UInt8) (e : TypeId) (n : Nat) (hn : n = w.heap.size) (h : Bytes w v l) :
    Rows8 (w.alloc (.cells #[v] e)) (.slice (some ⟨n, 0, none⟩) 1 1) [l] :=
  rows_lit w [v] [l] e n 1 hn rfl rfl (by simp [maxLen]) fun j u l' hv hl => by
    match j with
    | 0 => simp at hv hl; subst hv hl; exact h
    | j + 1 => simp at hv

theorem rows_none (w : World) : Rows8 w (.slice none 0 0) [] := ⟨none, 0, rfl, by simp, Nat.le_refl _, fun _ => rfl, .inl rfl⟩

/-- 'v[k:]' -/
theorem run_suffix {P : Program} {w : World} {a : Option Addr} {n c : Nat} {l : List UInt8} (h : Bytes w (.slice a n c) l) (k t e : Nat) (hk : k ≤ l.length)
    (T : RowTy P t e 1 1) : ∃ A N C, (∀ w', (Instr.slice t (.slice a n c) (some (.int .i64 k)) none none).run P w' = .ok (.slice A N C) w') ∧ Bytes w (.slice A N C) (l.drop k) ∧ N = l.length - k := by
  have hs := Bytes.suffix h k hk
  obtain ⟨a', c', e1, h1, h2, _⟩ := h
  cases e1
  refine ⟨_, _, _, fun w' => ?_, hs, rfl⟩
  obtain ⟨i, z, hi, hz, hsz, hby, hzs⟩ := T.ex
  have hb : (sizeOf e).run P w' = .ok 1 w' := by simp [sizeOf, typeInfo, hi, hsz]
  have hkn : (k : Int) ≤ (l.length : Nat) := by omega
  simp [Instr.slice, run_underlying T.ht, Instr.sliceBounds, run_sliceBound, hb, hkn]

/-- an operation of which it is known what it yields, in whatever world it leaves -/
theorem wpList_yields {P : Program} {w : World} {ops : Array Oper} {rest : List Oper} {o : Oper} {a : Act} {Q : Exit → Act → World → Prop} (hgd : o.guard = none) (v : Value) (w' : World)
    (hr : (execOp a.eval o).run P w = .ok (.value v) w') (h : wpList P ops Q rest (a.put o.dst v) w') : wpList P ops Q (o :: rest) a w :=
  wpList_plain hgd fun K hK => by
    unfold Oper.wp
    rw [hr]
    exact hK _ _ h

/-- 'min(x, y)' under a name of its own -/
theorem wpList_min {P : Program} {w : World} {ops : Array Oper} {rest : List Oper} {o : Oper} {a : Act} {Q : Exit → Act → World → Prop} (hgd : o.guard = none) (x y : Operand) (ts : Array TypeId)
    (ho : o.op = .call { callee := .builtin .min, args := #[x, y], argTypes := ts }) (k : IntKind) (m n : Int) (hx : a.eval x = .int k m) (hy : a.eval y = .int k n)
    (h : ∀ r : Int, Hid (r = if n < m then n else m) → wpList P ops Q rest (a.put o.dst (.int k r)) w) : wpList P ops Q (o :: rest) a w := by
  refine wpList_yields hgd (.int k (if n < m then n else m)) w ?_ (h _ rfl)
  unfold execOp
  simp only [ho, resolve, invoke, builtin, Sem.run_bind, Sem.run_pure, Result.andThen_ok, List.map_toArray, List.map_cons, List.map_nil, hx, hy, run_min_int2]

/-! ### What was there stays: in short words -/
theorem bre (a : World) : Below a.heap.size a a := Below.refl _ _
theorem bal {a w : World} (h : Below a.heap.size a w) (o : Obj) : Below a.heap.size a (w.alloc o) := h.alloc h.size o
theorem btr {a w w' : World} (h : Below a.heap.size a w) (k : Below w.heap.size w w') : Below a.heap.size a w' := h.trans (k.mono h.size)
theorem bdr {a w : World} (h : Below a.heap.size a w) : Below a.heap.size a w.drew := h.drew
theorem bdn {a w : World} (h : Below a.heap.size a w) (n : Nat) : Below a.heap.size a (w.drewN n) := ⟨h.os, h.tape, h.output, h.size, h.block⟩
theorem Rows8.drew {w : World} {v : Value} {l : List (List UInt8)} (h : Rows8 w v l) : Rows8 w.drew v l := h.below (bdr (bre w))
theorem Bytes.drew {w : World} {v : Value} {l : List UInt8} (h : Bytes w v l) : Bytes w.drew v l := h.below (bdr (bre w))
theorem rangeAt_keep {W w' : World} {b o : Nat} {cs : List Value} (h : W.rangeAt b o cs) (hlt : b < W.heap.size) (hb : Below W.heap.size W w') : w'.rangeAt b o cs := rangeAt_below h hb hlt

/-! ### Bytes of one's own: read and written in place -/
theorem Own8.shape {e : TypeId} {base : Nat} {w : World} {v : Value} {l : List UInt8} (h : Own8 e base w v l) (hne : l ≠ []) :
    ∃ g c, v = .slice (some ⟨g, 0, none⟩) l.length c ∧ base ≤ g ∧ g < w.heap.size ∧ l.length ≤ c := by
  rcases h.2 with ⟨_, h0⟩ | ⟨g, cap, cur, rfl, hb, hg, hn, _⟩
  · exact absurd (List.length_eq_zero_iff.1 h0) hne
  · exact ⟨g, cap, rfl, hb, (Array.getElem?_eq_some_iff.1 hg).1, hn⟩

theorem Own8.cell {e : TypeId} {base : Nat} {w : World} {g n c : Nat} {l : List UInt8} (h : Own8 e base w (.slice (some ⟨g, 0, none⟩) n c) l) (j : Nat) (hj : j < l.length) :
    w.cell? ⟨g, j, none⟩ = some (B8 l[j]) ∧ w.frozen? ⟨g, j, none⟩ = false := by
  have hn : n = l.length := by
    rcases h.2 with ⟨h', _⟩ | ⟨g', cap', cur, h', _⟩
    · cases h'
    · cases h'; rfl
  subst hn
  refine ⟨?_, World.ownsRow.frozenAt h j⟩
  rw [World.ownsRow.cellAt h j (by omega), List.getElem?_map, List.getElem?_eq_getElem hj]
  rfl

theorem Own8.store {e : TypeId} {base : Nat} {w : World} {g n c : Nat} {l : List UInt8} (h : Own8 e base w (.slice (some ⟨g, 0, none⟩) n c) l) (j : Nat) (b : UInt8) :
    Own8 e base (w.setCell ⟨g, j, none⟩ (B8 b)) (.slice (some ⟨g, 0, none⟩) n c) (l.set j b) ∧ Below base w (w.setCell ⟨g, j, none⟩ (B8 b)) := by
  have hn : n = l.length ∧ base ≤ g := by
    rcases h.2 with ⟨h', _⟩ | ⟨g', cap', cur, h', hb, _⟩
    · cases h'
    · cases h'; exact ⟨rfl, hb⟩
  obtain ⟨rfl, hb⟩ := hn
  refine ⟨?_, (Below.refl _ _).setCell hb _⟩
  have := (World.ownsRow.stored h j (B8 b)).1
  unfold Own8
  rw [List.length_set, List.map_set]
  exact this

/-! ### Rows of bytes of one's own -/
theorem own_apart {w : World} {b1 b2 e1 e2 s1 s2 n1 n2 : Nat} {v1 v2 : Value} {x1 x2 : List Value} (h1 : w.ownsRow b1 e1 s1 v1 n1 x1) (h2 : w.ownsRow b2 e2 s2 v2 n2 x2) (hne : e1 ≠ e2) :
    v1.ownBlock = none ∨ v1.ownBlock ≠ v2.ownBlock := by
  rcases h1.2 with ⟨rfl, _⟩ | ⟨g1, c1, cur1, rfl, _, hg1, _⟩
  · left; rfl
  · right
    rcases h2.2 with ⟨rfl, _⟩ | ⟨g2, c2, cur2, rfl, _, hg2, _⟩
    · simp [Value.ownBlock]
    · intro h
      simp [Value.ownBlock] at h
      subst h
      rw [hg1] at hg2
      cases hg2
      exact hne rfl

def OwnRows (e e8 base : Nat) (w : World) (v : Value) (ls : List (List UInt8)) : Prop :=
  ∃ vs : List Value, vs.length = ls.length ∧ w.ownsRow base e 1 v vs.length vs ∧ ∀ (j : Nat) u l, vs[j]? = some u → ls[j]? = some l → Own8 e8 base w u l

theorem OwnRows.nil (e e8 base : Nat) (w : World) : OwnRows e e8 base w (.slice none 0 0) [] := ⟨[], rfl, World.ownsRow_nil _ _ _ _, fun j u l h => by simp at h⟩

theorem OwnRows.kept {e e8 base : Nat} {w w' : World} {v : Value} {ls : List (List UInt8)} (h : OwnRows e e8 base w v ls) (hB : Below w.heap.size w w') : OwnRows e e8 base w' v ls := by
  obtain ⟨vs, h1, h2, h3⟩ := h
  refine ⟨vs, h1, World.ownsRow.kept (row := none) h2 ⟨hB.os, hB.tape, hB.output, hB.size, fun k hk _ => hB.block k hk⟩ (by cases v.ownBlock <;> simp), fun j u l hu hl => (h3 j u l hu hl).kept (Nat.le_refl _) hB⟩

theorem OwnRows.rows {e e8 base : Nat} {w : World} {v : Value} {ls : List (List UInt8)} (h : OwnRows e e8 base w v ls) : Rows8 w v ls := by
  obtain ⟨vs, h1, h2, h3⟩ := h
  obtain ⟨a, c, rfl, hc, hm, hn, hl, _⟩ := ownsRow_lies h2
  rw [h1] at hc
  refine ⟨a, c, by rw [h1], Nat.le_trans hc hm, hc, hn, ?_⟩
  rcases hl with h0 | ⟨g, o, ha, hr⟩
  · subst h0
    exact .inl (List.length_eq_zero_iff.1 h1.symm)
  · refine .inr ⟨g, o, ha, fun j x hx => ?_⟩
    have hj : j < vs.length := by have := (List.getElem?_eq_some_iff.1 hx).1; omega
    exact ⟨vs[j], hr j _ (List.getElem?_eq_getElem hj), (h3 j _ x (List.getElem?_eq_getElem hj) hx).bytes⟩

theorem Own8.oneCell {e : TypeId} {base : Nat} {w : World} {v : Value} {l : List UInt8} (h : Own8 e base w v l) : v.oneCell' = true := by
  obtain ⟨a, c, rfl, _⟩ := h.bytes
  rfl

/-- 'own = append(own, u)', u bytes of one's own -/
theorem wpList_appRow {P : Program} {w : World} {ops : Array Oper} {rest : List Oper} {o : Oper} {a : Act} {Q : Exit → Act → World → Prop} (hgd : o.guard = none) (s x : Operand)
    (t e e8 : Nat) (he : e ≠ e8) (bytes : Nat) (T : RowTy P t e 1 bytes) (ho : o.op = .call { callee := .builtin .append, args := #[s, x], argTypes := #[t, t] })
    (base : Nat) (v : Value) (ls : List (List UInt8)) (hs : a.eval s = v) (hown : OwnRows e e8 base w v ls)
    (u : Value) (l : List UInt8) (hu : Own8 e8 base w u l) (n : Nat) (hn : n = w.heap.size) (hx : a.eval x = .slice (some ⟨n, 0, none⟩) 1 1) (hbytes : (ls.length + 1) * bytes ≤ 140737488355328) (hlen : ls.length + 1 ≤ maxLen) (hbase : base ≤ w.heap.size)
    (h : ∀ v' w', OwnRows e e8 base w' v' (ls ++ [l]) → Below base w w' → wpList P ops Q rest (a.put o.dst v') w') : wpList P ops Q (o :: rest) a (w.alloc (.cells #[u] e)) := by
  subst hn
  obtain ⟨vs, h1, h2, h3⟩ := hown.kept (bal (bre w) (.cells #[u] e))
  have hu2 := Own8.kept hu (Nat.le_refl _) (bal (bre w) (.cells #[u] e))
  have hBw : Below base w (w.alloc (.cells #[u] e)) := (Below.refl _ _).alloc hbase _
  refine wpList_app hgd s x t e 1 bytes T ho base v vs.length vs hs h2 _ 1 1 [u] hx rfl (lies_one _ _ _) (Nat.le_refl _) (fun h => by cases h) ?_ (by omega) (by rw [h1]; exact hbytes) (by simp; omega) ?_
  · intro u' hu'
    simp at hu'
    subst hu'
    exact hu.oneCell
  · intro v' w' g1 g2 g3
    refine h v' w' ⟨vs ++ [u], by simp [h1], by simpa using g1, ?_⟩ (hBw.trans g3)
    intro j u' l' hj hl'
    have hkeep : ∀ {u'' : Value} {l'' : List UInt8}, Own8 e8 base (w.alloc (.cells #[u] e)) u'' l'' → Own8 e8 base w' u'' l'' := fun hh =>
      World.ownsRow.kept hh g2 (own_apart hh h2 (fun e' => he e'.symm))
    by_cases hjl : j < vs.length
    · rw [List.getElem?_append_left hjl] at hj
      rw [List.getElem?_append_left (by omega)] at hl'
      exact hkeep (h3 j u' l' hj hl')
    · rw [List.getElem?_append_right (by omega)] at hj
      rw [List.getElem?_append_right (by omega), ← h1] at hl'
      have h0 : j - vs.length = 0 := by have := (List.getElem?_eq_some_iff.1 hj).1; simp at this; omega
      rw [h0] at hj hl'
      simp at hj hl'
      subst hj hl'
      exact hkeep hu2

/-! ### What comes in -/
theorem wf_u8' {n : Int} (h : (Lit.int .u8 n).wf = true) : 0 ≤ n ∧ n < 256 := by
  simp [Lit.wf, IntKind.min, IntKind.max, IntKind.signed, IntKind.bits] at h
  omega
theorem wf_u16' {n : Int} (h : (Lit.int .u16 n).wf = true) : 0 ≤ n ∧ n < 65536 := by
  simp [Lit.wf, IntKind.min, IntKind.max, IntKind.signed, IntKind.bits] at h
  omega
theorem wf_u32' {n : Int} (h : (Lit.int .u32 n).wf = true) : 0 ≤ n ∧ n < 4294967296 := by
  simp [Lit.wf, IntKind.min, IntKind.max, IntKind.signed, IntKind.bits] at h
  omega
theorem wf_u64' {n : Int} (h : (Lit.int .u64 n).wf = true) : 0 ≤ n ∧ n < 18446744073709551616 := by
  simp [Lit.wf, IntKind.min, IntKind.max, IntKind.signed, IntKind.bits] at h
  omega

theorem spot_none {w : World} {x : Addr} {v : Value} (h : w.cell? x = some v) : x = ⟨x.block, x.off, none⟩ := by
  cases x with
  | mk b o s =>
    cases s with
    | none => rfl
    | some s =>
      exfalso
      unfold World.cell? at h
      split at h
      · simp at h
      · cases h

/-- bytes that came in -/
theorem bytes_of_row {w : World} {a : Option Addr} {len cap : Nat} {zs : List Int}
    (h : (a = none ∧ len = 0 ∧ cap = 0 ∧ zs = []) ∨
      ∃ x, a = some x ∧ len ≤ cap ∧ cap ≤ maxLen ∧ zs.length = cap ∧ (∀ i, i < zs.length → w.cell? (x.add i) = some (.int .u8 (zs.getD i 0))) ∧ ∀ n ∈ zs, (Lit.int .u8 n).wf = true) :
    ∃ l : List UInt8, l.length = len ∧ Bytes w (.slice a len cap) l := by
  rcases h with ⟨rfl, rfl, rfl, rfl⟩ | ⟨x, rfl, h1, h2, h3, h4, h5⟩
  · exact ⟨[], rfl, none, 0, rfl, by simp, Nat.le_refl _, fun _ => rfl, .inl rfl⟩
  · have hlen : ((zs.take len).map fun n => UInt8.ofNat n.toNat).length = len := by rw [List.length_map, List.length_take]; omega
    refine ⟨(zs.take len).map fun n => UInt8.ofNat n.toNat, hlen, some x, cap, by rw [hlen], by omega, by omega, fun h => (by cases h), ?_⟩
    by_cases hz : len = 0
    · left; subst hz; rfl
    · right
      have h0 := h4 0 (by omega)
      have hx := spot_none (x := x) (by simpa [Addr.add] using h0)
      refine ⟨x.block, x.off, by rw [← hx], fun j b hb => ?_⟩
      have hj : j < len := by have := (List.getElem?_eq_some_iff.1 hb).1; omega
      have h6 := h4 j (by omega)
      rw [hx, Addr.add_mid] at h6
      refine ⟨_, h6, ?_⟩
      rw [List.getElem?_map, List.getElem?_take, if_pos hj, List.getElem?_eq_getElem (by omega)] at hb
      simp only [Option.map_some, Option.some.injEq] at hb
      subst hb
      have hw := wf_u8' (h5 _ (List.getElem_mem (show j < zs.length by omega)))
      have hg : zs.getD j 0 = zs[j] := by simp [List.getD, List.getElem?_eq_getElem (show j < zs.length by omega)]
      rw [hg]
      unfold B8
      rw [UInt8.toNat_ofNat_of_lt' (by simp; omega)]
      congr 1
      omega

end Go.Proofs.Ytnbncjebmlicgaa
