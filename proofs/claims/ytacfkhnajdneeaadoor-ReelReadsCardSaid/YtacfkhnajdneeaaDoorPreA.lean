/- Merged: Base Crc SumA SumB SumC RefSum Cut Clone Equal Join Same Seal Open RefOpen Burst ShowsA App Long Still Ord OrdG Make Full. -/
import Derived.WalkKit
import Derived.WalkSpells
import Derived.LoopTactic
import Derived.Lib.Hide
import Derived.Deep.WholeRow
import Derived.Deep.MidRow
import Derived.Laws.CopyOwn
import Derived.Laws.AppendOwnNone
import Derived.Laws.BytesString
import Derived.Deep.Draws
import Derived.Test.YtacfkhnajdneeaaDoorChecked
import Derived.Deep.QuietTactic
import Derived.BigQuiet
import Derived.Deep.RegionHeld3
import Derived.RegionTactic
import Derived.BigRegion
import Derived.ArgAppend
import Derived.Laws.IdiomStrings
import Derived.Laws.OwnMore
import Derived.StillTailTactics
import Derived.Great.BuildSlice
import Derived.OrdersHeld
import Derived.OwnWalk
/- Slices that are read: what lies where a slice points to, whatever its kind; what stays when memory grows. No program is in sight. -/
namespace Go.Proofs.YtacfkhnajdneeaaDoor
open Go.RowKit

def B8 (b : UInt8) : Value := .int .u8 (b.toNat : Int)

/-- the cells cs lie where the address points to -/
def Lies (w : World) (a : Option Addr) (cs : List Value) : Prop := cs = [] ∨ ∃ g o, a = some ⟨g, o, none⟩ ∧ w.rangeAt g o cs

/-- a slice of one-cell elements, each of which stands for one of l -/
def SliceOf {α : Type} (R : World → Value → α → Prop) (w : World) (v : Value) (l : List α) : Prop :=
  ∃ a c, v = .slice a l.length c ∧ l.length ≤ maxLen ∧ l.length ≤ c ∧ (a = none → c = 0) ∧ (l = [] ∨ ∃ g o, a = some ⟨g, o, none⟩ ∧ ∀ j x, l[j]? = some x → ∃ u, w.cell? ⟨g, o + j, none⟩ = some u ∧ R w u x)

/-- a slice of bytes -/
def Bytes (w : World) (v : Value) (l : List UInt8) : Prop := SliceOf (fun _ u b => u = B8 b) w v l

theorem SliceOf.mono {α : Type} {R S : World → Value → α → Prop} {w w' : World} {v : Value} {l : List α} (h : SliceOf R w v l) (hb : Below w.heap.size w w')
    (hR : ∀ u x, x ∈ l → R w u x → S w' u x) : SliceOf S w' v l := by
  obtain ⟨a, c, rfl, hm, hc, hn, h⟩ := h
  refine ⟨a, c, rfl, hm, hc, hn, ?_⟩
  rcases h with h | ⟨g, o, ha, h⟩
  · exact .inl h
  · refine .inr ⟨g, o, ha, fun j x hx => ?_⟩
    obtain ⟨u, hu, hr⟩ := h j x hx
    exact ⟨u, (hb.cell (block_lt_of_cell hu)).trans hu, hR u x (List.mem_of_getElem? hx) hr⟩

theorem Bytes.below {w w' : World} {v : Value} {l : List UInt8} (h : Bytes w v l) (hb : Below w.heap.size w w') : Bytes w' v l := SliceOf.mono h hb fun _ _ _ h => h

/-- rows of bytes -/
def Rows8 (w : World) (v : Value) (ls : List (List UInt8)) : Prop := SliceOf Bytes w v ls
theorem Rows8.below {w w' : World} {v : Value} {l : List (List UInt8)} (h : Rows8 w v l) (hb : Below w.heap.size w w') : Rows8 w' v l := SliceOf.mono h hb fun _ _ _ h => h.below hb

theorem take_snoc_u8 {α : Type} (l : List α) (k : Nat) (h : k < l.length) : l.take (k + 1) = l.take k ++ [l[k]] := List.take_succ_eq_append_getElem h

/-! ### Rows of one's own, and append -/

/-- what an append asks of a slice's type t, its element type e -/
structure RowTy (P : Program) (t e size bytes : Nat) : Prop where
  ht : P.underlying t = some (.slice e)
  ex : ∃ i z, P.info? e = some i ∧ i.zero = some z ∧ i.size = size ∧ i.bytes = bytes ∧ z.cells.size = size
  pos : 0 < size

theorem RowTy.mk' {P : Program} {t e size bytes : Nat} {z : Value} (ht : P.underlying t = some (.slice e)) (hi : (P.info? e).map (fun i => (i.zero, i.size, i.bytes)) = some (some z, size, bytes))
    (hz : z.cells.size = size) (hp : 0 < size) : RowTy P t e size bytes := by
  obtain ⟨i, h1, h2, h3, h4⟩ := info_parts hi
  exact ⟨ht, ⟨i, z, h1, h2, h3, h4, hz⟩, hp⟩

theorem ownsRow_base {w : World} {base base' : Nat} {e : TypeId} {size : Nat} {v : Value} {n : Nat} {xs : List Value} (h : w.ownsRow base e size v n xs) (hb : base' ≤ base) : w.ownsRow base' e size v n xs := by
  refine ⟨h.1, ?_⟩
  rcases h.2 with h | ⟨g, cap, cur, h1, h2, h3⟩
  · exact .inl h
  · exact .inr ⟨g, cap, cur, h1, Nat.le_trans hb h2, h3⟩

theorem ownsRow_lies {w : World} {base : Nat} {e : TypeId} {size : Nat} {v : Value} {n : Nat} {xs : List Value} (h : w.ownsRow base e size v n xs) :
    ∃ a c, v = .slice a n c ∧ n ≤ c ∧ c ≤ maxLen ∧ (a = none → c = 0) ∧ Lies w a xs ∧ (∀ g o s, a = some ⟨g, o, s⟩ → base ≤ g ∧ g < w.heap.size ∧ o = 0 ∧ s = none) := by
  rcases h.2 with ⟨rfl, rfl⟩ | ⟨g, cap, cur, rfl, hb, hg, hn, hc, hs, ht⟩
  · exact ⟨none, 0, rfl, Nat.le_refl _, Nat.zero_le _, fun _ => rfl, .inl (by simpa using h.1), fun g o s hh => by cases hh⟩
  · refine ⟨_, cap, rfl, hn, hc, fun h => (by cases h), .inr ⟨g, 0, rfl, fun j v hv => ?_⟩, fun g' o' s' e => by cases e; exact ⟨hb, (Array.getElem?_eq_some_iff.1 hg).1, rfl, rfl⟩⟩
    have := h.cells (g := g) rfl j v hv
    rwa [Addr.add_mid] at this

/-- an append to a row of one's own, whatever the source is -/
theorem wpList_app {P : Program} {w : World} {ops : Array Oper} {rest : List Oper} {o : Oper} {a : Act} {Q : Exit → Act → World → Prop} (hgd : o.guard = none) (s x : Operand)
    (t e size bytes : Nat) (T : RowTy P t e size bytes) (ho : o.op = .call { callee := .builtin .append, args := #[s, x], argTypes := #[t, t] })
    (base : Nat) (v : Value) (n : Nat) (xs : List Value) (hs : a.eval s = v) (hown : w.ownsRow base e size v n xs)
    (ad : Option Addr) (m c : Nat) (news : List Value) (hx : a.eval x = .slice ad m c) (hl : news.length = m * size) (hlies : Lies w ad news) (hcap : m ≤ c) (hnil : ad = none → c = 0) (h1 : ∀ u ∈ news, u.oneCell' = true)
    (h63 : n + m ≤ maxLen) (hbytes : (n + m) * bytes ≤ 140737488355328) (hbase : base ≤ w.heap.size)
    (h : ∀ v' w', w'.ownsRow base e size v' (n + m) (xs ++ news) → w.grownBy w' v.ownBlock → Below base w w' → wpList P ops Q rest (a.put o.dst v') w') : wpList P ops Q (o :: rest) a w := by
  obtain ⟨i, z, hi, hz, hsz, hby, hzs⟩ := T.ex
  have fin : ∀ v' w', w'.ownsRow base e size v' (n + m) (xs ++ news) → w.grownBy w' v.ownBlock → wpList P ops Q rest (a.put o.dst v') w' := fun v' w' h2 h3 =>
    h v' w' h2 h3 ((Below.refl base w).grown h3 hbase (fun k hk => (hown.lt k hk).1))
  cases ad with
  | none =>
    have hc0 := hnil rfl
    subst hc0
    have hm : m = 0 := by omega
    subst hm
    have hn0 : news = [] := by simpa using hl
    subst hn0
    refine wpList_append_own_none hgd s x t ho base e i size T.ht hi v n xs hs hown hx ?_
    exact fin v w (by simpa using hown) ⟨rfl, rfl, rfl, Nat.le_refl _, fun _ _ _ => rfl⟩
  | some ad =>
    refine wpList_append_own w hgd s x t ho base e i z size bytes T.ht hi hz hsz hby hzs T.pos v n xs hs hown ad m c news hx hl ?_ h1 h63 hbytes hbase (fun v' w' h2 h3 _ => fin v' w' h2 h3)
    intro j u hu
    rcases hlies with h0 | ⟨g, o', ha, hr⟩
    · subst h0; simp at hu
    · cases ha
      rw [Addr.add_mid]
      exact hr j u hu

theorem lies_one (w : World) (x : Value) (t : TypeId) : Lies (w.alloc (.cells #[x] t)) (some ⟨w.heap.size, 0, none⟩) [x] :=
  .inr ⟨_, _, rfl, fun j u hu => by
    have := World.cell?_alloc_new w #[x] t j
    rw [Nat.zero_add, this]
    simpa using hu⟩

/-! ### Bytes of one's own -/
def Own8 (e : TypeId) (base : Nat) (w : World) (v : Value) (l : List UInt8) : Prop := w.ownsRow base e 1 v l.length (l.map B8)

theorem B8_one (l : List UInt8) : ∀ u ∈ l.map B8, u.oneCell' = true := by
  intro u hu
  obtain ⟨b, _, rfl⟩ := List.mem_map.1 hu
  rfl

theorem Own8.bytes {e : TypeId} {base : Nat} {w : World} {v : Value} {l : List UInt8} (h : Own8 e base w v l) : Bytes w v l := by
  obtain ⟨a, c, rfl, hc, hm, hn, hl, _⟩ := ownsRow_lies h
  refine ⟨a, c, rfl, Nat.le_trans hc hm, hc, hn, ?_⟩
  rcases hl with h0 | ⟨g, o, ha, hr⟩
  · exact .inl (by simpa using h0)
  · exact .inr ⟨g, o, ha, fun j x hx => ⟨B8 x, hr j _ (by simp [hx]), rfl⟩⟩

theorem Own8.nil (e : TypeId) (base : Nat) (w : World) : Own8 e base w (.slice none 0 0) [] := World.ownsRow_nil _ _ _ _

theorem Own8.kept {e : TypeId} {base base' : Nat} {w w' : World} {v : Value} {l : List UInt8} (h : Own8 e base w v l) (hb : base' ≤ base) (hB : Below w.heap.size w w') : Own8 e base' w' v l := by
  refine ownsRow_base (World.ownsRow.kept (row := none) h ⟨hB.os, hB.tape, hB.output, hB.size, fun k hk _ => hB.block k hk⟩ ?_) hb
  cases v.ownBlock <;> simp

/-- what is read of a slice of bytes -/
theorem Bytes.lies {w : World} {v : Value} {l : List UInt8} (h : Bytes w v l) : ∃ a c, v = .slice a l.length c ∧ l.length ≤ maxLen ∧ l.length ≤ c ∧ (a = none → c = 0) ∧ Lies w a (l.map B8) := by
  obtain ⟨a, c, rfl, hm, hc, hn, h⟩ := h
  refine ⟨a, c, rfl, hm, hc, hn, ?_⟩
  rcases h with h | ⟨g, o, ha, h⟩
  · exact .inl (by simpa using h)
  · refine .inr ⟨g, o, ha, fun j u hu => ?_⟩
    simp only [List.getElem?_map, Option.map_eq_some_iff] at hu
    obtain ⟨x, hx, rfl⟩ := hu
    obtain ⟨u, hu, rfl⟩ := h j x hx
    exact hu

theorem Own8.snoc {e : TypeId} {base : Nat} {w : World} {v : Value} {l : List UInt8} {b : UInt8} (h : w.ownsRow base e 1 v (l.length + 1) (l.map B8 ++ [B8 b])) : Own8 e base w v (l ++ [b]) := by
  unfold Own8; simpa using h
theorem Own8.app {e : TypeId} {base : Nat} {w : World} {v : Value} {l m : List UInt8} (h : w.ownsRow base e 1 v (l.length + m.length) (l.map B8 ++ m.map B8)) : Own8 e base w v (l ++ m) := by
  unfold Own8; simpa using h

theorem bytes_one (w : World) (b : UInt8) (e : TypeId) : Bytes (w.alloc (.cells #[B8 b] e)) (.slice (some ⟨w.heap.size, 0, none⟩) 1 1) [b] :=
  ⟨_, 1, rfl, by simp [maxLen], Nat.le_refl _, fun h => (by cases h), .inr ⟨_, _, rfl, fun j x hx => ⟨B8 x, by
    have := World.cell?_alloc_new w #[B8 b] e j
    rw [Nat.zero_add, this]
    have : j = 0 := by have := (List.getElem?_eq_some_iff.1 hx).1; simpa using this
    subst this
    simp at hx
    subst hx
    rfl, rfl⟩⟩⟩

/-- an append of bytes to bytes of one's own -/
theorem wpList_app8 {P : Program} {w : World} {ops : Array Oper} {rest : List Oper} {o : Oper} {a : Act} {Q : Exit → Act → World → Prop} (hgd : o.guard = none) (s x : Operand)
    (t e : Nat) (T : RowTy P t e 1 1) (ho : o.op = .call { callee := .builtin .append, args := #[s, x], argTypes := #[t, t] })
    (base : Nat) (v : Value) (l : List UInt8) (hs : a.eval s = v) (hown : Own8 e base w v l)
    (u : Value) (m : List UInt8) (hx : a.eval x = u) (hm : Bytes w u m) (hbytes : l.length + m.length ≤ 140737488355328) (hbase : base ≤ w.heap.size)
    (h : ∀ v' w', Own8 e base w' v' (l ++ m) → w.grownBy w' v.ownBlock → Below base w w' → wpList P ops Q rest (a.put o.dst v') w') : wpList P ops Q (o :: rest) a w := by
  obtain ⟨ad, c, rfl, hm0, hmc, hn, hl⟩ := hm.lies
  exact wpList_app hgd s x t e 1 1 T ho base v l.length (l.map B8) hs hown ad m.length c (m.map B8) hx (by simp) hl hmc hn (B8_one m) (by unfold maxLen; omega) (by omega) hbase
    (fun v' w' h1 h2 h3 => h v' w' (Own8.app h1) h2 h3)

/-- the string of some bytes -/
def strOf (l : List UInt8) : ByteArray := ⟨l.toArray⟩

theorem strOf_toList (l : List UInt8) : (strOf l).toList = l := by
  rw [ByteArray.toList_eq]; rfl

theorem foldl_push (l : List UInt8) : ∀ s : ByteArray, (l.map fun b => (b.toNat : Int)).foldl (fun r n => r.push (UInt8.ofNat n.toNat)) s = ⟨s.data ++ l.toArray⟩ := by
  induction l with
  | nil => intro s; simp
  | cons b l ih =>
    intro s
    rw [List.map_cons, List.foldl_cons, ih]
    congr 1
    simp [ByteArray.push]

theorem run_str {P : Program} (w : World) (src dst e : TypeId) (v : Value) (p : List UInt8) (hv : Bytes w v p)
    (hs : P.underlying src = some (.slice e)) (he : P.underlying e = some (.int .u8)) (hd : P.underlying dst = some .string) :
    (convert src dst v).run P w = .ok (.string (strOf p)) w := by
  obtain ⟨a, c, rfl, hm, hc, hn, hl⟩ := hv.lies
  rw [run_convert_bytes_string w src dst e a _ c hs he hd]
  cases a with
  | none =>
    have hc0 := hn rfl
    subst hc0
    have hp : p = [] := List.length_eq_zero_iff.1 (by omega)
    subst hp
    rfl
  | some ad =>
    have hload : (loadCells ad p.length).run P w = .ok ((p.map fun b => (b.toNat : Int)).map (Value.int .u8)).toArray w := by
      have h := run_loadCells_list (P := P) w ad (p.map B8) (fun j u hu => by
        rcases hl with h0 | ⟨g, o, ha, hr⟩
        · rw [h0] at hu; simp at hu
        · cases ha
          rw [Addr.add_mid]
          exact hr j u hu)
      rw [List.length_map] at h
      rw [h, List.map_map]
      rfl
    rw [run_bytesToString w ad p.length c _ hload, foldl_push]
    have he' : ByteArray.empty.data = #[] := rfl
    rw [he']
    simp [strOf]

/-- a literal of bytes -/
theorem own8_lit (e : TypeId) (w : World) (cs : Array Value) (l : List UInt8) (n : Nat) (h : cs.toList = l.map B8) (hn : n = l.length) (hm : l.length ≤ maxLen) :
    Own8 e w.heap.size (w.alloc (.cells cs e)) (.slice (some ⟨w.heap.size, 0, none⟩) n n) l := by
  subst hn
  have hs : cs.size = l.length := by rw [← Array.length_toList, h, List.length_map]
  refine ⟨by simp, .inr ⟨w.heap.size, l.length, cs, rfl, Nat.le_refl _, heap_alloc_new w _, Nat.le_refl _, hm, by omega, ?_⟩⟩
  rw [Nat.mul_one, h, List.take_of_length_le (by simp)]

theorem SliceOf.firsts {α : Type} {R : World → Value → α → Prop} {w : World} {a : Option Addr} {n c : Nat} {l : List α} (h : SliceOf R w (.slice a n c) l) (m : Nat) (hm : m ≤ l.length) : SliceOf R w (.slice a m c) (l.take m) := by
  obtain ⟨a', c', e, h1, h2, h3, h4⟩ := h
  cases e
  refine ⟨a, c, by rw [List.length_take, Nat.min_eq_left hm], by rw [List.length_take]; omega, by rw [List.length_take]; omega, h3, ?_⟩
  rcases h4 with h4 | ⟨g, o, ha, h4⟩
  · left; simp [h4]
  · refine .inr ⟨g, o, ha, fun j x hx => h4 j x ?_⟩
    rw [List.getElem?_take] at hx
    split at hx
    · exact hx
    · cases hx

theorem rangeAt_below {w w' : World} {B b o : Nat} {cs : List Value} (h : w.rangeAt b o cs) (hb : Below B w w') (hlt : b < B) : w'.rangeAt b o cs :=
  fun j v hv => (hb.cell (p := ⟨b, o + j, none⟩) hlt).trans (h j v hv)

theorem rangeAt_new (w : World) (cs : List Value) (t : TypeId) (n : Nat) (hn : n = w.heap.size) : (w.alloc (.cells cs.toArray t)).rangeAt n 0 cs := fun j v hv => by
  subst hn
  rw [Nat.zero_add, World.cell?_alloc_new w cs.toArray t j]
  simpa using hv

theorem below_draw {w w' : World} {B : Nat} (h : Below B w w') : Below B w w'.drew := h.drew

/-- a whole row into the block that was made last -/
theorem wpList_store_new {P : Program} {w : World} {ops : Array Oper} {rest : List Oper} {o : Oper} {a : Act} {Q : Exit → Act → World → Prop} (hgd : o.guard = none) (ty : TypeId) (x y : Operand) (ho : o.op = .store ty x y)
    (z cells : Array Value) (n : Nat) (hn : n = w.heap.size) (hx : a.eval x = .pointer (some ⟨n, 0, none⟩)) (hy : a.eval y = .agg cells) (hi : (P.info? ty).map (·.size) = some cells.size)
    (hz : z.size = cells.size) (h1 : cells.all (·.oneCell') = true) (h : wpList P ops Q rest (a.put o.dst undef) (w.alloc (.cells cells ty))) : wpList P ops Q (o :: rest) a (w.alloc (.cells z ty)) := by
  subst hn
  refine wpList_store_row hgd ty x y ho w.heap.size cells hx hy ty z (heap_alloc_new w _) hi hz h1 ?_
  rw [World.setRow_alloc_new]
  exact h

theorem Bytes.suffix {w : World} {a : Option Addr} {n c : Nat} {l : List UInt8} (h : Bytes w (.slice a n c) l) (m : Nat) (hm : m ≤ l.length) :
    Bytes w (.slice (if c = m then a else a.map (·.add m)) (n - m) (c - m)) (l.drop m) := by
  obtain ⟨a', c', e, h1, h2, h3, h4⟩ := h
  cases e
  refine ⟨_, _, by rw [List.length_drop], by rw [List.length_drop]; omega, by rw [List.length_drop]; omega, ?_, ?_⟩
  · intro h
    split at h
    · omega
    · cases a with
      | none => have := h3 rfl; omega
      | some a => simp at h
  · rcases h4 with h4 | ⟨g, o, ha, h4⟩
    · left; simp [h4]
    · subst ha
      by_cases hl : l.drop m = []
      · exact .inl hl
      · have hlt : m < l.length := by
          rcases Nat.lt_or_ge m l.length with h | h
          · exact h
          · exact absurd (List.drop_eq_nil_of_le h) hl
        right
        rw [if_neg (by omega)]
        refine ⟨g, o + m, by rw [Option.map_some, Addr.add_mid], fun j x hx => ?_⟩
        rw [List.getElem?_drop] at hx
        rw [Nat.add_assoc]
        exact h4 _ x hx

/-- two rows of bytes in a new block -/
theorem rows_lit (w : World) (cs : List Value) (ls : List (List UInt8)) (e : TypeId) (n k : Nat) (hn : n = w.heap.size) (hk : k = ls.length) (hl : cs.length = ls.length) (hm : ls.length ≤ maxLen)
    (h : ∀ (j : Nat) v l, cs[j]? = some v → ls[j]? = some l → Bytes w v l) : Rows8 (w.alloc (.cells cs.toArray e)) (.slice (some ⟨n, 0, none⟩) k k) ls := by
  subst hn hk
  refine ⟨_, _, rfl, hm, Nat.le_refl _, fun h => (by cases h), .inr ⟨_, _, rfl, fun j x hx => ?_⟩⟩
  have hj : j < cs.length := by have := (List.getElem?_eq_some_iff.1 hx).1; omega
  refine ⟨cs[j], ?_, (h j _ x (List.getElem?_eq_getElem hj) hx).below ((Below.refl _ _).alloc (Nat.le_refl _) _)⟩
  rw [Nat.zero_add, World.cell?_alloc_new w cs.toArray e j]
  simp [hj]

theorem rows_lit2 (w : World) (v1 v2 : Value) (l1 l2 : List UInt8) (e : TypeId) (n : Nat) (hn : n = w.heap.size) (h1 : Bytes w v1 l1) (h2 : Bytes w v2 l2) :
    Rows8 (w.alloc (.cells #[v1, v2] e)) (.slice (some ⟨n, 0, none⟩) 2 2) [l1, l2] :=
  rows_lit w [v1, v2] [l1, l2] e n 2 hn rfl rfl (by simp [maxLen]) fun j v l hv hl => by
    match j with
    | 0 => simp at hv hl; subst hv hl; exact h1
    | 1 => simp at hv hl; subst hv hl; exact h2
    | j + 2 => simp at hv

theorem rows_lit1 (w : World) (v : Value) (l : List UInt8) (e : TypeId) (n : Nat) (hn : n = w.heap.size) (h : Bytes w v l) :
    Rows8 (w.alloc (.cells #[v] e)) (.slice (some ⟨n, 0, none⟩) 1 1) [l] :=
  rows_lit w [v] [l] e n 1 hn rfl rfl (by simp [maxLen]) fun j u l' hv hl => by
    match j with
    | 0 => simp at hv hl; subst hv hl; exact h
    | j + 1 => simp at hv

theorem rows_none (w : World) : Rows8 w (.slice none 0 0) [] := ⟨none, 0, rfl, by simp, Nat.le_refl _, fun _ => rfl, .inl rfl⟩

/-- 'v[k:]' -/
theorem run_suffix {P : Program} {w : World} {a : Option Addr} {n c : Nat} {l : List UInt8} (h : Bytes w (.slice a n c) l) (k t e : Nat) (hk : k ≤ l.length)
    (T : RowTy P t e 1 1) : ∃ A N C, (∀ w', (Instr.slice t (.slice a n c) (some (.int .i64 k)) none none).run P w' = .ok (.slice A N C) w') ∧ Bytes w (.slice A N C) (l.drop k) ∧ N = l.length - k := by
  have hs := Bytes.suffix h k hk
  obtain ⟨a', c', e1, h1, h2, _⟩ := h
  cases e1
  refine ⟨_, _, _, fun w' => ?_, hs, rfl⟩
  obtain ⟨i, z, hi, hz, hsz, hby, hzs⟩ := T.ex
  have hb : (sizeOf e).run P w' = .ok 1 w' := by simp [sizeOf, typeInfo, hi, hsz]
  have hkn : (k : Int) ≤ (l.length : Nat) := by omega
  simp [Instr.slice, run_underlying T.ht, Instr.sliceBounds, run_sliceBound, hb, hkn]

/-- an operation of which it is known what it yields, in whatever world it leaves -/
theorem wpList_yields {P : Program} {w : World} {ops : Array Oper} {rest : List Oper} {o : Oper} {a : Act} {Q : Exit → Act → World → Prop} (hgd : o.guard = none) (v : Value) (w' : World)
    (hr : (execOp a.eval o).run P w = .ok (.value v) w') (h : wpList P ops Q rest (a.put o.dst v) w') : wpList P ops Q (o :: rest) a w :=
  wpList_plain hgd fun K hK => by
    unfold Oper.wp
    rw [hr]
    exact hK _ _ h

/-- 'min(x, y)' under a name of its own -/
theorem wpList_min {P : Program} {w : World} {ops : Array Oper} {rest : List Oper} {o : Oper} {a : Act} {Q : Exit → Act → World → Prop} (hgd : o.guard = none) (x y : Operand) (ts : Array TypeId)
    (ho : o.op = .call { callee := .builtin .min, args := #[x, y], argTypes := ts }) (k : IntKind) (m n : Int) (hx : a.eval x = .int k m) (hy : a.eval y = .int k n)
    (h : ∀ r : Int, Hid (r = if n < m then n else m) → wpList P ops Q rest (a.put o.dst (.int k r)) w) : wpList P ops Q (o :: rest) a w := by
  refine wpList_yields hgd (.int k (if n < m then n else m)) w ?_ (h _ rfl)
  unfold execOp
  simp only [ho, resolve, invoke, builtin, Sem.run_bind, Sem.run_pure, Result.andThen_ok, List.map_toArray, List.map_cons, List.map_nil, hx, hy, run_min_int2]

/-! ### What was there stays: in short words -/
theorem bre (a : World) : Below a.heap.size a a := Below.refl _ _
theorem bal {a w : World} (h : Below a.heap.size a w) (o : Obj) : Below a.heap.size a (w.alloc o) := h.alloc h.size o
theorem btr {a w w' : World} (h : Below a.heap.size a w) (k : Below w.heap.size w w') : Below a.heap.size a w' := h.trans (k.mono h.size)
theorem bdr {a w : World} (h : Below a.heap.size a w) : Below a.heap.size a w.drew := h.drew
theorem bdn {a w : World} (h : Below a.heap.size a w) (n : Nat) : Below a.heap.size a (w.drewN n) := ⟨h.os, h.tape, h.output, h.size, h.block⟩
theorem Rows8.drew {w : World} {v : Value} {l : List (List UInt8)} (h : Rows8 w v l) : Rows8 w.drew v l := h.below (bdr (bre w))
theorem Bytes.drew {w : World} {v : Value} {l : List UInt8} (h : Bytes w v l) : Bytes w.drew v l := h.below (bdr (bre w))
theorem rangeAt_keep {W w' : World} {b o : Nat} {cs : List Value} (h : W.rangeAt b o cs) (hlt : b < W.heap.size) (hb : Below W.heap.size W w') : w'.rangeAt b o cs := rangeAt_below h hb hlt

/-! ### Bytes of one's own: read and written in place -/
theorem Own8.shape {e : TypeId} {base : Nat} {w : World} {v : Value} {l : List UInt8} (h : Own8 e base w v l) (hne : l ≠ []) :
    ∃ g c, v = .slice (some ⟨g, 0, none⟩) l.length c ∧ base ≤ g ∧ g < w.heap.size ∧ l.length ≤ c := by
  rcases h.2 with ⟨_, h0⟩ | ⟨g, cap, cur, rfl, hb, hg, hn, _⟩
  · exact absurd (List.length_eq_zero_iff.1 h0) hne
  · exact ⟨g, cap, rfl, hb, (Array.getElem?_eq_some_iff.1 hg).1, hn⟩

theorem Own8.cell {e : TypeId} {base : Nat} {w : World} {g n c : Nat} {l : List UInt8} (h : Own8 e base w (.slice (some ⟨g, 0, none⟩) n c) l) (j : Nat) (hj : j < l.length) :
    w.cell? ⟨g, j, none⟩ = some (B8 l[j]) ∧ w.frozen? ⟨g, j, none⟩ = false := by
  have hn : n = l.length := by
    rcases h.2 with ⟨h', _⟩ | ⟨g', cap', cur, h', _⟩
    · cases h'
    · cases h'; rfl
  subst hn
  refine ⟨?_, World.ownsRow.frozenAt h j⟩
  rw [World.ownsRow.cellAt h j (by omega), List.getElem?_map, List.getElem?_eq_getElem hj]
  rfl

theorem Own8.store {e : TypeId} {base : Nat} {w : World} {g n c : Nat} {l : List UInt8} (h : Own8 e base w (.slice (some ⟨g, 0, none⟩) n c) l) (j : Nat) (b : UInt8) :
    Own8 e base (w.setCell ⟨g, j, none⟩ (B8 b)) (.slice (some ⟨g, 0, none⟩) n c) (l.set j b) ∧ Below base w (w.setCell ⟨g, j, none⟩ (B8 b)) := by
  have hn : n = l.length ∧ base ≤ g := by
    rcases h.2 with ⟨h', _⟩ | ⟨g', cap', cur, h', hb, _⟩
    · cases h'
    · cases h'; exact ⟨rfl, hb⟩
  obtain ⟨rfl, hb⟩ := hn
  refine ⟨?_, (Below.refl _ _).setCell hb _⟩
  have := (World.ownsRow.stored h j (B8 b)).1
  unfold Own8
  rw [List.length_set, List.map_set]
  exact this

/-! ### Rows of bytes of one's own -/
theorem own_apart {w : World} {b1 b2 e1 e2 s1 s2 n1 n2 : Nat} {v1 v2 : Value} {x1 x2 : List Value} (h1 : w.ownsRow b1 e1 s1 v1 n1 x1) (h2 : w.ownsRow b2 e2 s2 v2 n2 x2) (hne : e1 ≠ e2) :
    v1.ownBlock = none ∨ v1.ownBlock ≠ v2.ownBlock := by
  rcases h1.2 with ⟨rfl, _⟩ | ⟨g1, c1, cur1, rfl, _, hg1, _⟩
  · left; rfl
  · right
    rcases h2.2 with ⟨rfl, _⟩ | ⟨g2, c2, cur2, rfl, _, hg2, _⟩
    · simp [Value.ownBlock]
    · intro h
      simp [Value.ownBlock] at h
      subst h
      rw [hg1] at hg2
      cases hg2
      exact hne rfl

def OwnRows (e e8 base : Nat) (w : World) (v : Value) (ls : List (List UInt8)) : Prop :=
  ∃ vs : List Value, vs.length = ls.length ∧ w.ownsRow base e 1 v vs.length vs ∧ ∀ (j : Nat) u l, vs[j]? = some u → ls[j]? = some l → Own8 e8 base w u l

theorem OwnRows.nil (e e8 base : Nat) (w : World) : OwnRows e e8 base w (.slice none 0 0) [] := ⟨[], rfl, World.ownsRow_nil _ _ _ _, fun j u l h => by simp at h⟩

theorem OwnRows.kept {e e8 base : Nat} {w w' : World} {v : Value} {ls : List (List UInt8)} (h : OwnRows e e8 base w v ls) (hB : Below w.heap.size w w') : OwnRows e e8 base w' v ls := by
  obtain ⟨vs, h1, h2, h3⟩ := h
  refine ⟨vs, h1, World.ownsRow.kept (row := none) h2 ⟨hB.os, hB.tape, hB.output, hB.size, fun k hk _ => hB.block k hk⟩ (by cases v.ownBlock <;> simp), fun j u l hu hl => (h3 j u l hu hl).kept (Nat.le_refl _) hB⟩

theorem OwnRows.rows {e e8 base : Nat} {w : World} {v : Value} {ls : List (List UInt8)} (h : OwnRows e e8 base w v ls) : Rows8 w v ls := by
  obtain ⟨vs, h1, h2, h3⟩ := h
  obtain ⟨a, c, rfl, hc, hm, hn, hl, _⟩ := ownsRow_lies h2
  rw [h1] at hc
  refine ⟨a, c, by rw [h1], Nat.le_trans hc hm, hc, hn, ?_⟩
  rcases hl with h0 | ⟨g, o, ha, hr⟩
  · subst h0
    exact .inl (List.length_eq_zero_iff.1 h1.symm)
  · refine .inr ⟨g, o, ha, fun j x hx => ?_⟩
    have hj : j < vs.length := by have := (List.getElem?_eq_some_iff.1 hx).1; omega
    exact ⟨vs[j], hr j _ (List.getElem?_eq_getElem hj), (h3 j _ x (List.getElem?_eq_getElem hj) hx).bytes⟩

theorem Own8.oneCell {e : TypeId} {base : Nat} {w : World} {v : Value} {l : List UInt8} (h : Own8 e base w v l) : v.oneCell' = true := by
  obtain ⟨a, c, rfl, _⟩ := h.bytes
  rfl

/-- 'own = append(own, u)', u bytes of one's own -/
theorem wpList_appRow {P : Program} {w : World} {ops : Array Oper} {rest : List Oper} {o : Oper} {a : Act} {Q : Exit → Act → World → Prop} (hgd : o.guard = none) (s x : Operand)
    (t e e8 : Nat) (he : e ≠ e8) (bytes : Nat) (T : RowTy P t e 1 bytes) (ho : o.op = .call { callee := .builtin .append, args := #[s, x], argTypes := #[t, t] })
    (base : Nat) (v : Value) (ls : List (List UInt8)) (hs : a.eval s = v) (hown : OwnRows e e8 base w v ls)
    (u : Value) (l : List UInt8) (hu : Own8 e8 base w u l) (n : Nat) (hn : n = w.heap.size) (hx : a.eval x = .slice (some ⟨n, 0, none⟩) 1 1) (hbytes : (ls.length + 1) * bytes ≤ 140737488355328) (hlen : ls.length + 1 ≤ maxLen) (hbase : base ≤ w.heap.size)
    (h : ∀ v' w', OwnRows e e8 base w' v' (ls ++ [l]) → Below base w w' → wpList P ops Q rest (a.put o.dst v') w') : wpList P ops Q (o :: rest) a (w.alloc (.cells #[u] e)) := by
  subst hn
  obtain ⟨vs, h1, h2, h3⟩ := hown.kept (bal (bre w) (.cells #[u] e))
  have hu2 := Own8.kept hu (Nat.le_refl _) (bal (bre w) (.cells #[u] e))
  have hBw : Below base w (w.alloc (.cells #[u] e)) := (Below.refl _ _).alloc hbase _
  refine wpList_app hgd s x t e 1 bytes T ho base v vs.length vs hs h2 _ 1 1 [u] hx rfl (lies_one _ _ _) (Nat.le_refl _) (fun h => by cases h) ?_ (by omega) (by rw [h1]; exact hbytes) (by simp; omega) ?_
  · intro u' hu'
    simp at hu'
    subst hu'
    exact hu.oneCell
  · intro v' w' g1 g2 g3
    refine h v' w' ⟨vs ++ [u], by simp [h1], by simpa using g1, ?_⟩ (hBw.trans g3)
    intro j u' l' hj hl'
    have hkeep : ∀ {u'' : Value} {l'' : List UInt8}, Own8 e8 base (w.alloc (.cells #[u] e)) u'' l'' → Own8 e8 base w' u'' l'' := fun hh =>
      World.ownsRow.kept hh g2 (own_apart hh h2 (fun e' => he e'.symm))
    by_cases hjl : j < vs.length
    · rw [List.getElem?_append_left hjl] at hj
      rw [List.getElem?_append_left (by omega)] at hl'
      exact hkeep (h3 j u' l' hj hl')
    · rw [List.getElem?_append_right (by omega)] at hj
      rw [List.getElem?_append_right (by omega), ← h1] at hl'
      have h0 : j - vs.length = 0 := by have := (List.getElem?_eq_some_iff.1 hj).1; simp at this; omega
      rw [h0] at hj hl'
      simp at hj hl'
      subst hj hl'
      exact hkeep hu2

/-! ### What comes in -/
theorem wf_u8' {n : Int} (h : (Lit.int .u8 n).wf = true) : 0 ≤ n ∧ n < 256 := by
  simp [Lit.wf, IntKind.min, IntKind.max, IntKind.signed, IntKind.bits] at h
  omega
theorem wf_u16' {n : Int} (h : (Lit.int .u16 n).wf = true) : 0 ≤ n ∧ n < 65536 := by
  simp [Lit.wf, IntKind.min, IntKind.max, IntKind.signed, IntKind.bits] at h
  omega
theorem wf_u32' {n : Int} (h : (Lit.int .u32 n).wf = true) : 0 ≤ n ∧ n < 4294967296 := by
  simp [Lit.wf, IntKind.min, IntKind.max, IntKind.signed, IntKind.bits] at h
  omega
theorem wf_u64' {n : Int} (h : (Lit.int .u64 n).wf = true) : 0 ≤ n ∧ n < 18446744073709551616 := by
  simp [Lit.wf, IntKind.min, IntKind.max, IntKind.signed, IntKind.bits] at h
  omega

theorem spot_none {w : World} {x : Addr} {v : Value} (h : w.cell? x = some v) : x = ⟨x.block, x.off, none⟩ := by
  cases x with
  | mk b o s =>
    cases s with
    | none => rfl
    | some s =>
      exfalso
      unfold World.cell? at h
      split at h
      · simp at h
      · cases h

/-- bytes that came in -/
theorem bytes_of_row {w : World} {a : Option Addr} {len cap : Nat} {zs : List Int}
    (h : (a = none ∧ len = 0 ∧ cap = 0 ∧ zs = []) ∨
      ∃ x, a = some x ∧ len ≤ cap ∧ cap ≤ maxLen ∧ zs.length = cap ∧ (∀ i, i < zs.length → w.cell? (x.add i) = some (.int .u8 (zs.getD i 0))) ∧ ∀ n ∈ zs, (Lit.int .u8 n).wf = true) :
    ∃ l : List UInt8, l.length = len ∧ Bytes w (.slice a len cap) l := by
  rcases h with ⟨rfl, rfl, rfl, rfl⟩ | ⟨x, rfl, h1, h2, h3, h4, h5⟩
  · exact ⟨[], rfl, none, 0, rfl, by simp, Nat.le_refl _, fun _ => rfl, .inl rfl⟩
  · have hlen : ((zs.take len).map fun n => UInt8.ofNat n.toNat).length = len := by rw [List.length_map, List.length_take]; omega
    refine ⟨(zs.take len).map fun n => UInt8.ofNat n.toNat, hlen, some x, cap, by rw [hlen], by omega, by omega, fun h => (by cases h), ?_⟩
    by_cases hz : len = 0
    · left; subst hz; rfl
    · right
      have h0 := h4 0 (by omega)
      have hx := spot_none (x := x) (by simpa [Addr.add] using h0)
      refine ⟨x.block, x.off, by rw [← hx], fun j b hb => ?_⟩
      have hj : j < len := by have := (List.getElem?_eq_some_iff.1 hb).1; omega
      have h6 := h4 j (by omega)
      rw [hx, Addr.add_mid] at h6
      refine ⟨_, h6, ?_⟩
      rw [List.getElem?_map, List.getElem?_take, if_pos hj, List.getElem?_eq_getElem (by omega)] at hb
      simp only [Option.map_some, Option.some.injEq] at hb
      subst hb
      have hw := wf_u8' (h5 _ (List.getElem_mem (show j < zs.length by omega)))
      have hg : zs.getD j 0 = zs[j] := by simp [List.getD, List.getElem?_eq_getElem (show j < zs.length by omega)]
      rw [hg]
      unfold B8
      rw [UInt8.toNat_ofNat_of_lt' (by simp; omega)]
      congr 1
      omega

end Go.Proofs.YtacfkhnajdneeaaDoor
/- The plain mathematics of the sums: a bitwise step, its linearity, the table's way, and that a burst within 32 bits is seen. No program is in sight. -/
namespace Crc

def poly : Nat := 3988292384
def bit (s : Nat) : Nat := s / 2 ^^^ (if s % 2 = 1 then poly else 0)
def bits : Nat → Nat → Nat
  | 0, s => s
  | k + 1, s => bits k (bit s)
def step (s b : Nat) : Nat := bits 8 (s ^^^ b)
def run (s : Nat) (l : List Nat) : Nat := l.foldl step s
def ones : Nat := 4294967295
def crc (l : List Nat) : Nat := run ones l ^^^ ones

theorem mod2_xor (a b : Nat) : (a ^^^ b) % 2 = (a % 2 + b % 2) % 2 := by
  have h := Nat.testBit_xor a b 0
  rw [Nat.testBit_zero, Nat.testBit_zero, Nat.testBit_zero] at h
  rcases Nat.mod_two_eq_zero_or_one a with ha | ha <;> rcases Nat.mod_two_eq_zero_or_one b with hb | hb <;>
    rcases Nat.mod_two_eq_zero_or_one (a ^^^ b) with hc | hc <;> simp [ha, hb, hc] at h ⊢

theorem div2_xor (a b : Nat) : (a ^^^ b) / 2 = a / 2 ^^^ b / 2 := by
  have h := Nat.shiftRight_xor_distrib (a := a) (b := b) (i := 1)
  simpa [Nat.shiftRight_succ] using h

theorem divp_xor (a b k : Nat) : (a ^^^ b) / 2 ^ k = a / 2 ^ k ^^^ b / 2 ^ k := by
  have h := Nat.shiftRight_xor_distrib (a := a) (b := b) (i := k)
  simpa [Nat.shiftRight_eq_div_pow] using h

theorem bit_xor (a b : Nat) : bit (a ^^^ b) = bit a ^^^ bit b := by
  unfold bit
  rw [div2_xor, mod2_xor]
  rcases Nat.mod_two_eq_zero_or_one a with ha | ha <;> rcases Nat.mod_two_eq_zero_or_one b with hb | hb <;> simp [ha, hb]
  · ac_rfl
  · ac_rfl
  · rw [show a / 2 ^^^ poly ^^^ (b / 2 ^^^ poly) = (a / 2 ^^^ b / 2) ^^^ (poly ^^^ poly) by ac_rfl]; simp

theorem bit_zero : bit 0 = 0 := by decide
theorem bits_zero (k : Nat) : bits k 0 = 0 := by
  induction k with
  | zero => rfl
  | succ k ih => rw [bits, bit_zero]; exact ih

theorem bits_xor (k a b : Nat) : bits k (a ^^^ b) = bits k a ^^^ bits k b := by
  induction k generalizing a b with
  | zero => rfl
  | succ k ih => simp only [bits]; rw [bit_xor, ih]

theorem bits_add (j k s : Nat) : bits (j + k) s = bits k (bits j s) := by
  induction j generalizing s with
  | zero => simp [bits]
  | succ j ih => rw [show j + 1 + k = (j + k) + 1 by omega, bits, ih, bits]

theorem bit_lt {s : Nat} (h : s < 4294967296) : bit s < 4294967296 := by
  unfold bit
  have h2 : (4294967296 : Nat) = 2 ^ 32 := by decide
  rw [h2] at h ⊢
  refine Nat.xor_lt_two_pow (by omega) ?_
  split
  · decide
  · decide

theorem bits_lt {k s : Nat} (h : s < 4294967296) : bits k s < 4294967296 := by
  induction k generalizing s with
  | zero => exact h
  | succ k ih => exact ih (bit_lt h)

theorem xor_lt {a b : Nat} (ha : a < 4294967296) (hb : b < 4294967296) : a ^^^ b < 4294967296 := by
  have h2 : (4294967296 : Nat) = 2 ^ 32 := by decide
  rw [h2] at ha hb ⊢
  exact Nat.xor_lt_two_pow ha hb

theorem step_lt {s b : Nat} (h : s < 4294967296) (hb : b < 256) : step s b < 4294967296 :=
  bits_lt (xor_lt h (by omega))

theorem run_lt {l : List Nat} (hl : ∀ b ∈ l, b < 256) {s : Nat} (h : s < 4294967296) : run s l < 4294967296 := by
  induction l generalizing s with
  | nil => exact h
  | cons b l ih =>
    exact ih (fun x hx => hl x (List.mem_cons_of_mem _ hx)) (step_lt h (hl b List.mem_cons_self))

/-- the top bit of what comes tells the lowest of what was -/
theorem bit_eq_zero {s : Nat} (h : s < 4294967296) (h0 : bit s = 0) : s = 0 := by
  unfold bit at h0
  rcases Nat.mod_two_eq_zero_or_one s with hs | hs
  · rw [hs] at h0; simp at h0; omega
  · rw [hs] at h0
    simp only [if_true] at h0
    have ht := congrArg (fun n => Nat.testBit n 31) h0
    simp only [Nat.testBit_xor, Nat.zero_testBit] at ht
    have h1 : Nat.testBit (s / 2) 31 = false := Nat.testBit_lt_two_pow (by omega)
    have h2 : Nat.testBit poly 31 = true := by decide
    rw [h1, h2] at ht
    simp at ht

theorem bits_eq_zero {k s : Nat} (h : s < 4294967296) (h0 : bits k s = 0) : s = 0 := by
  induction k generalizing s with
  | zero => exact h0
  | succ k ih => exact bit_eq_zero h (ih (bit_lt h) h0)

theorem bit_even {s : Nat} (h : s % 2 = 0) : bit s = s / 2 := by simp [bit, h]

theorem bits_shift {k s : Nat} (h : s % 2 ^ k = 0) : bits k s = s / 2 ^ k := by
  induction k generalizing s with
  | zero => simp [bits]
  | succ k ih =>
    have hd : 2 ^ (k + 1) ∣ s := Nat.dvd_of_mod_eq_zero h
    obtain ⟨q, rfl⟩ := hd
    have e : 2 ^ (k + 1) * q = 2 * (2 ^ k * q) := by rw [Nat.pow_succ]; ac_rfl
    have he : (2 ^ (k + 1) * q) % 2 = 0 := by rw [e]; omega
    have e2 : 2 ^ (k + 1) * q / 2 = 2 ^ k * q := by rw [e]; omega
    rw [bits, bit_even he, e2, ih (by simp)]
    rw [Nat.mul_div_cancel_left _ (Nat.two_pow_pos _), Nat.mul_div_cancel_left _ (Nat.two_pow_pos _)]

theorem split256 (s : Nat) : s = (s / 256 * 256) ^^^ (s % 256) := by
  apply Nat.eq_of_testBit_eq
  intro i
  rw [Nat.testBit_xor, Nat.mul_comm (s / 256) 256, show (256 : Nat) = 2 ^ 8 by decide, Nat.testBit_two_pow_mul, Nat.testBit_mod_two_pow, Nat.testBit_div_two_pow]
  by_cases hi : 8 ≤ i
  · have h8 : ¬ i < 8 := by omega
    simp [hi, h8]
  · have h8 : i < 8 := by omega
    simp [hi, h8]

/-- a byte by the table -/
theorem step_table (s b : Nat) : step s b = s / 256 ^^^ step 0 (s % 256 ^^^ b) := by
  unfold step
  conv => lhs; rw [split256 s]
  rw [Nat.xor_assoc, bits_xor, Nat.zero_xor, bits_shift (k := 8) (by omega)]
  congr 1
  omega

theorem step_xor (s t a b : Nat) : step (s ^^^ t) (a ^^^ b) = step s a ^^^ step t b := by
  unfold step
  rw [show s ^^^ t ^^^ (a ^^^ b) = (s ^^^ a) ^^^ (t ^^^ b) by ac_rfl, bits_xor]

theorem run_append (s : Nat) (l m : List Nat) : run s (l ++ m) = run (run s l) m := by simp [run]

theorem run_zipXor (s t : Nat) (l m : List Nat) (h : l.length = m.length) :
    run (s ^^^ t) (List.zipWith (· ^^^ ·) l m) = run s l ^^^ run t m := by
  induction l generalizing s t m with
  | nil => cases m <;> simp_all [run]
  | cons a l ih =>
    cases m with
    | nil => simp at h
    | cons b m =>
      simp only [List.zipWith_cons_cons, run, List.foldl_cons]
      rw [step_xor]
      exact ih _ _ _ (by simpa using h)


/-! ### Bit by bit -/

def b2n (b : Bool) : Nat := if b then 1 else 0
def runBits (s : Nat) (l : List Bool) : Nat := l.foldl (fun s b => bit (s ^^^ b2n b)) s
def word : List Bool → Nat
  | [] => 0
  | b :: l => b2n b + 2 * word l
def bitsOf (b : Nat) : List Bool := (List.range 8).map fun i => b.testBit i
def allBits (l : List Nat) : List Bool := l.flatMap bitsOf

theorem b2n_le (b : Bool) : b2n b ≤ 1 := by cases b <;> decide

theorem word_lt (l : List Bool) : word l < 2 ^ l.length := by
  induction l with
  | nil => simp [word]
  | cons b l ih => simp only [word, List.length_cons, Nat.pow_succ]; have := b2n_le b; omega

theorem xor_low (x : Nat) (b : Bool) : b2n b + 2 * x = (2 * x) ^^^ b2n b := by
  have h1 := div2_xor (2 * x) (b2n b)
  have h2 := mod2_xor (2 * x) (b2n b)
  have hb := b2n_le b
  have e1 : 2 * x / 2 = x := by omega
  have e2 : b2n b / 2 = 0 := by omega
  rw [e1, e2, Nat.xor_zero] at h1
  omega

theorem bit_double {x : Nat} : bit (2 * x) = x := by
  rw [bit_even (by omega)]; omega

theorem runBits_word (l : List Bool) : ∀ s, runBits s l = bits l.length (s ^^^ word l) := by
  induction l with
  | nil => intro s; simp [runBits, bits, word]
  | cons b l ih =>
    intro s
    have h := ih (bit (s ^^^ b2n b))
    simp only [runBits, List.foldl_cons, List.length_cons, bits] at h ⊢
    rw [h]
    congr 1
    simp only [word]
    rw [xor_low, show s ^^^ (2 * word l ^^^ b2n b) = (s ^^^ b2n b) ^^^ (2 * word l) by ac_rfl, bit_xor (s ^^^ b2n b) (2 * word l), bit_double]

theorem runBits_append (s : Nat) (l m : List Bool) : runBits s (l ++ m) = runBits (runBits s l) m := by simp [runBits]

theorem word_bitsOf {b : Nat} (h : b < 256) : word (bitsOf b) = b := by
  have e : bitsOf b = [b.testBit 0, b.testBit 1, b.testBit 2, b.testBit 3, b.testBit 4, b.testBit 5, b.testBit 6, b.testBit 7] := rfl
  have t (i : Nat) : b2n (b.testBit i) = b / 2 ^ i % 2 := by
    rw [Nat.testBit_eq_decide_div_mod_eq]
    rcases Nat.mod_two_eq_zero_or_one (b / 2 ^ i) with hh | hh <;> simp [b2n, hh]
  rw [e]
  simp only [word, t]
  omega

theorem length_bitsOf (b : Nat) : (bitsOf b).length = 8 := by simp [bitsOf]

theorem step_bits (s : Nat) {b : Nat} (h : b < 256) : step s b = runBits s (bitsOf b) := by
  rw [runBits_word, length_bitsOf, word_bitsOf h]; rfl

theorem run_bits (l : List Nat) (hl : ∀ b ∈ l, b < 256) : ∀ s, run s l = runBits s (allBits l) := by
  induction l with
  | nil => intro s; rfl
  | cons b l ih =>
    intro s
    have h := ih (fun x hx => hl x (List.mem_cons_of_mem _ hx)) (step s b)
    simp only [run, List.foldl_cons] at h ⊢
    rw [h, step_bits s (hl b List.mem_cons_self)]
    simp [allBits, runBits_append]

theorem runBits_none (s : Nat) (n : Nat) : runBits s (List.replicate n false) = bits n s := by
  induction n generalizing s with
  | zero => rfl
  | succ n ih => rw [List.replicate_succ]; simp only [runBits, List.foldl_cons, bits] at ih ⊢; simpa [b2n] using ih (bit s)

/-- WHAT LIES WITHIN 32 BITS IN A ROW IS SEEN. -/
theorem window (m k : Nat) (l : List Bool) (hl : l.length ≤ 32) (h : runBits 0 (List.replicate m false ++ l ++ List.replicate k false) = 0) : word l = 0 := by
  rw [runBits_append, runBits_append, runBits_none, runBits_none, bits_zero, runBits_word] at h
  simp only [Nat.zero_xor] at h
  have hw := word_lt l
  have h32 : (2 : Nat) ^ l.length ≤ 2 ^ 32 := Nat.pow_le_pow_right (by omega) hl
  have hlt : word l < 4294967296 := by
    have : (2 : Nat) ^ 32 = 4294967296 := by decide
    omega
  exact bits_eq_zero hlt (bits_eq_zero (bits_lt hlt) h)

end Crc
/- Walks: sum.Step. -/
namespace Go.Proofs.YtacfkhnajdneeaaDoor
open Go.RowKit

theorem xor32 (a b : Nat) (ha : a < 4294967296) (hb : b < 4294967296) : bits .xor .u32 (a : Int) (b : Int) = ((a ^^^ b : Nat) : Int) := u32_xor_nat a b ha hb

theorem bit_go (y : Nat) (hy : y < 4294967296) :
    Value.int .u32 (bits .xor .u32 ((y : Int) / 2) (bits .and .u32 (y : Int) 1 * 3988292384 % 4294967296)) = .int .u32 (Crc.bit y : Nat) := by
  have h1 : bits .and .u32 (y : Int) 1 = ((y % 2 : Nat) : Int) := by
    have h := u32_and_nat y 1 hy (by omega)
    rw [Nat.and_one_is_mod] at h
    exact h
  rw [h1]
  have h2 : ((y % 2 : Nat) : Int) * 3988292384 % 4294967296 = (((if y % 2 = 1 then Crc.poly else 0) : Nat) : Int) := by
    unfold Crc.poly
    rcases Nat.mod_two_eq_zero_or_one y with h | h <;> simp [h]
  rw [h2]
  have h3 : (y : Int) / 2 = ((y / 2 : Nat) : Int) := by omega
  rw [h3, xor32 _ _ (by omega) (by split <;> simp [Crc.poly])]
  rfl

set_option maxHeartbeats 400000 in
theorem step_any (s b : Nat) (hs : s < 4294967296) (hb : b < 256) (w : World) :
    Calls Tryd.prog 91 #[.int .u32 s, .int .u8 b] w fun e w' => e = .returned (.int .u32 (Crc.step s b : Nat)) ∧ w' = w := by
  go_enter Tryd.func91, Tryd.ntmps91
  go_wp2
  rw [xor32 s b hs (by omega)]
  have hx := Crc.xor_lt hs (show b < 4294967296 by omega)
  obtain ⟨x, hst⟩ : ∃ x, x = s ^^^ b := ⟨_, rfl⟩
  rw [← hst] at hx ⊢
  have HX := Lib.hid hst
  clear hst
  go_loop [0, 5, 10] (fun c _ i => ∃ k : Nat, k ≤ 8 ∧ i = .int .i64 k ∧ ∃ y : Nat, y < 4294967296 ∧ Crc.bits (8 - k) y = Crc.bits 8 x ∧ c = .int .u32 y) (fun _ _ i => 8 - (intOf i).toNat)
  case atStart => exact ⟨0, by omega, rfl, x, hx, rfl, rfl⟩
  case round =>
    obtain ⟨k, hk, rfl, y, hy, hb8, rfl⟩ := hrel
    have H := Lib.hid hb8
    clear hb8
    go_wp2
    · go_round
      case rel =>
        refine ⟨k + 1, by omega, by go_num, Crc.bit y, Crc.bit_lt hy, ?_, ?_⟩
        · rw [← H.out, show 8 - k = (8 - (k + 1)) + 1 by omega]; rfl
        · exact bit_go y hy
      case measure => simp [intOf]; omega
    · have e8 : k = 8 := by omega
      subst e8
      go_ret
      refine ⟨?_, rfl⟩
      have h2 := H.out
      have h3 : Crc.step s b = y := by
        rw [Crc.step, ← HX.out, ← h2]
        rfl
      rw [h3]
      rfl
end Go.Proofs.YtacfkhnajdneeaaDoor
/- Walks: sum.Make. -/
namespace Go.Proofs.YtacfkhnajdneeaaDoor
open Go.RowKit

/-- the table's cells -/
def tabL : List Value := (List.range 256).map fun i => Value.int .u32 (Crc.step 0 i : Nat)
abbrev tab : Array Value := tabL.toArray
theorem size_tabL : tabL.length = 256 := by simp [tabL]
theorem size_tab : tab.size = 256 := by simp [tabL]
theorem get_tab (i : Nat) (h : i < 256) : tab[i]? = some (.int .u32 (Crc.step 0 i : Nat)) := by
  simp [tabL, h]

theorem tab_cells : tab.all (·.oneCell') = true := by
  rw [Array.all_eq_true_iff_forall_mem]
  intro v hv
  simp only [tabL, List.mem_toArray, List.mem_map] at hv
  obtain ⟨i, _, rfl⟩ := hv
  rfl

theorem zero256 : ∃ z : Array Value, z.size = 256 ∧ (∀ w, (zeroValue 134).run Tryd.prog w = .ok (.agg z) w) :=
  ⟨Array.replicate 256 (.int .u32 0), by simp, fun w => by kernel_rfl⟩
theorem info_tab : (Tryd.prog.info? 134).map (·.size) = some 256 := by kernel_rfl

/-- the state of the table behind k rounds -/
structure MakeRel (w : World) (k : Nat) (wr : World) : Prop where
  le : k ≤ 256
  out : ∃ z : Array Value, z.size = 256 ∧ wr.heap[w.heap.size]? = some (.cells z 134 (0, 0))
  tabc : ∃ cs : Array Value, cs.size = 256 ∧ wr.heap[w.heap.size + 1]? = some (.cells cs 134 (0, 0)) ∧ ∀ j, j < k → cs[j]? = some (.int .u32 (Crc.step 0 j : Nat))
  below : Below w.heap.size w wr

theorem MakeRel.cell {w wr : World} {k : Nat} (h : MakeRel w k wr) (hk : k < 256) : ∃ v, wr.cell? ⟨w.heap.size + 1, k, none⟩ = some v ∧ wr.frozen? ⟨w.heap.size + 1, k, none⟩ = false := by
  obtain ⟨cs, hs, hg, _⟩ := h.tabc
  refine ⟨cs[k]'(by omega), ?_, frozen_of_row wr _ _ cs _ hg⟩
  rw [cell_of_row wr _ _ cs _ _ hg]
  simp [show k < cs.size by omega]

theorem MakeRel.next {w wr : World} {k : Nat} (h : MakeRel w k wr) (hk : k < 256) : MakeRel w (k + 1) (wr.setCell ⟨w.heap.size + 1, k, none⟩ (.int .u32 (Crc.step 0 k : Nat))) := by
  obtain ⟨cs, hs, hg, ht⟩ := h.tabc
  obtain ⟨z, hz, hzg⟩ := h.out
  refine ⟨by omega, ⟨z, hz, ?_⟩, ⟨cs.setIfInBounds k (.int .u32 (Crc.step 0 k : Nat)), by simpa using hs, heap_setCell_same wr _ _ cs _ _ hg, fun j hj => ?_⟩, h.below.setCell (by simp) _⟩
  · rw [heap_setCell_other _ _ _ _ (by simp)]; exact hzg
  · rw [Array.getElem?_setIfInBounds]
    by_cases e : k = j
    · subst e; simp [show k < cs.size by omega]
    · rw [if_neg e]; exact ht j (by omega)

theorem MakeRel.full {w wr : World} (h : MakeRel w 256 wr) : wr.heap[w.heap.size + 1]? = some (.cells tab 134 (0, 0)) := by
  obtain ⟨cs, hs, hg, ht⟩ := h.tabc
  have : cs = tab := by
    apply Array.ext_getElem?
    intro i
    by_cases hi : i < 256
    · rw [ht i hi, get_tab i hi]
    · rw [Array.getElem?_eq_none (by omega), Array.getElem?_eq_none (by rw [size_tab]; omega)]
  rw [← this]
  exact hg

theorem make_start (w : World) (z : Array Value) (hz : z.size = 256) : MakeRel w 0 ((w.alloc (.cells z 134)).alloc (.cells z 134)) :=
  ⟨by omega, ⟨z, hz, heap_alloc2_old w _ _⟩, ⟨z, hz, heap_alloc2_new w _ _, fun j hj => absurd hj (by omega)⟩, ((Below.refl _ _).alloc (Nat.le_refl _) _).alloc (by simp) _⟩

theorem step0_any (b : Nat) (hb : b < 256) (w : World) :
    Calls Tryd.prog 91 #[.int .u32 0, .int .u8 b] w fun e w' => e = .returned (.int .u32 (Crc.step 0 b : Nat)) ∧ w' = w :=
  step_any 0 b (by omega) hb w

set_option maxRecDepth 4000 in
set_option maxHeartbeats 400000 in
theorem make_any (w : World) :
    Calls Tryd.prog 83 #[] w fun e w' => e = .returned (.agg tab) ∧ Below w.heap.size w w' := by
  obtain ⟨z, hzs, hz⟩ := zero256
  have HZ := Lib.hid hzs
  clear hzs
  go_enter Tryd.func83, Tryd.ntmps83
  go_wp2
  go_loopw [2, 3] (fun _ i wr => ∃ k : Nat, i = .int .i64 k ∧ MakeRel w k wr) (fun _ i _ => 256 - (intOf i).toNat)
  case atStart => exact ⟨0, rfl, make_start w z HZ.out⟩
  case round =>
    obtain ⟨k, rfl, hr⟩ := hrel
    have hk := hr.le
    clear hz
    by_cases hlt : k < 256
    · obtain ⟨v, hv, hf⟩ := hr.cell hlt
      go_wp2_with (go_at_call 91; refine (step0_any k hlt _).mono ?_; rintro e w' ⟨rfl, rfl⟩)
      go_roundw
      case rel => exact ⟨k + 1, by go_num, hr.next hlt⟩
      case measure => simp [intOf]; omega
    · have e256 : k = 256 := by omega
      subst e256
      have hg := hr.full
      obtain ⟨zo, hzo, hgo⟩ := hr.out
      have hb := hr.below
      have HS := Lib.hid hzo
      have HG := Lib.hid hg
      have HO := Lib.hid hgo
      clear hg hgo hzo hlt
      go_wp2_with (first | (refine wpList_load_row rfl 134 _ rfl (w.heap.size + 1) rfl 134 tab (0, 0) _ HG.out Tryd.underlying134 rfl ?_ ?_) | (refine wpList_store_row rfl 134 _ _ rfl w.heap.size tab rfl rfl 134 zo HO.out ?_ ?_ ?_ ?_))
      · rw [size_tab]; exact info_tab
      · rw [size_tab]; exact info_tab
      · rw [size_tab]; exact HS.out
      · exact tab_cells
      · exact bodyPost_ret (results_cell_row rfl _ _ w.heap.size 134 tab (0, 0) _ rfl (setRow_heap _ _ _ _ _ _ HO.out) Tryd.underlying134 rfl (by rw [size_tab]; exact info_tab)) rfl ⟨rfl, below_setRow hb (Nat.le_refl _) _⟩
end Go.Proofs.YtacfkhnajdneeaaDoor
/- Walks: Table.Sum. -/
namespace Go.Proofs.YtacfkhnajdneeaaDoor
open Go.RowKit

def nats (l : List UInt8) : List Nat := l.map (·.toNat)
def crc8 (l : List UInt8) : Nat := Crc.crc (nats l)
def st (l : List UInt8) : Nat := Crc.run Crc.ones (nats l)
theorem st_lt (l : List UInt8) : st l < 4294967296 :=
  Crc.run_lt (fun b hb => by simp [nats] at hb; obtain ⟨x, _, rfl⟩ := hb; exact x.toNat_lt) (by decide)
theorem st_snoc (l : List UInt8) (b : UInt8) : st (l ++ [b]) = Crc.step (st l) b.toNat := by
  simp [st, nats, Crc.run]

theorem flat_snoc (ls : List (List UInt8)) (k : Nat) (h : k < ls.length) : (ls.take (k + 1)).flatten = (ls.take k).flatten ++ ls[k] := by
  rw [List.take_succ_eq_append_getElem h, List.flatten_append]; simp

theorem not32 (s : Nat) (hs : s < 4294967296) : bits .xor .u32 IntKind.u32.max (s : Int) = ((s ^^^ Crc.ones : Nat) : Int) := by
  have e : IntKind.u32.max = ((4294967295 : Nat) : Int) := by decide
  rw [e, xor32 _ _ (by decide) hs, Nat.xor_comm]
  rfl

theorem tab_go (s : Nat) (b : UInt8) (hs : s < 4294967296) : Value.int .u32 (bits .xor .u32 ((s : Int) / 256) ((Crc.step 0 (s % 256 ^^^ b.toNat) : Nat) : Int)) = .int .u32 ((Crc.step s b.toNat : Nat) : Int) := by
  have h1 : (s : Int) / 256 = ((s / 256 : Nat) : Int) := by omega
  have hb := b.toNat_lt
  rw [h1, xor32 _ _ (by omega) (Crc.step_lt (by decide) (Nat.xor_lt_two_pow (n := 8) (by omega) (by omega))), Crc.step_table s]

set_option maxRecDepth 10000 in
set_option maxHeartbeats 400000 in
theorem sum_any (v : Value) (ls : List (List UInt8)) (w : World) (hv : Rows8 w v ls) :
    Calls Tryd.prog 94 #[.agg tab, v] w fun e w' => e = .returned (.int .u32 (crc8 ls.flatten : Nat)) ∧ w' = w.alloc (.cells tab 134) := by
  obtain ⟨a, c, rfl, hm, hc, _, hrow⟩ := hv
  unfold maxLen at hm
  have HR := Lib.hid hrow
  clear hrow
  have hbox : (w.alloc (.cells tab 134)).heap[w.heap.size]? = some (.cells tab 134 (0, 0)) := heap_alloc_new w _
  have HB := Lib.hid hbox
  clear hbox
  go_enter Tryd.func94, Tryd.ntmps94
  go_wp2
  go_loop [5, 7, 9, 12] (fun c _ _ i => ∃ k : Nat, k ≤ ls.length ∧ i = .int .i64 k ∧ c = .int .u32 (st (ls.take k).flatten : Nat)) (fun _ _ _ i => ls.length - (intOf i).toNat)
  case atStart => exact ⟨0, by omega, rfl, rfl⟩
  case round =>
    obtain ⟨k, hk, rfl, rfl⟩ := hrel
    by_cases hlt : k < ls.length
    · rcases HR.out with h0 | ⟨g, o, rfl, hcell⟩
      · subst h0; simp at hlt
      · obtain ⟨u, hu, a2, c2, rfl, hm2, hc2, _, hrow2⟩ := hcell k _ (List.getElem?_eq_getElem hlt)
        clear hcell
        have HR2 := Lib.hid hrow2
        clear hrow2
        have hg : g < w.heap.size := block_lt_of_cell hu
        unfold maxLen at hm2
        have hfl := flat_snoc ls k hlt
        have HF := Lib.hid hfl
        clear hfl
        go_wp2
        go_loop [5, 9, 18] (fun c _ i => ∃ j : Nat, j ≤ ls[k].length ∧ i = .int .i64 j ∧ c = .int .u32 (st ((ls.take k).flatten ++ ls[k].take j) : Nat)) (fun _ _ i => ls[k].length - (intOf i).toNat)
        case atStart => exact ⟨0, by omega, rfl, by simp⟩
        case round =>
          obtain ⟨j, hj, rfl, rfl⟩ := hrel
          by_cases hlt2 : j < ls[k].length
          · rcases HR2.out with h0 | ⟨g2, o2, rfl, hcell2⟩
            · simp [h0] at hlt2
            · obtain ⟨_, hu2, rfl⟩ := hcell2 j _ (List.getElem?_eq_getElem hlt2)
              unfold B8 at hu2
              clear hcell2
              have hg2 : g2 < w.heap.size := block_lt_of_cell hu2
              have hs := st_lt ((ls.take k).flatten ++ ls[k].take j)
              have hts := st_snoc ((ls.take k).flatten ++ ls[k].take j) ls[k][j]
              rw [List.append_assoc, ← take_snoc_u8 _ _ hlt2] at hts
              have HT := Lib.hid hts
              clear hts hu
              generalize st ((ls.take k).flatten ++ ls[k].take j) = s at *
              have hb := ls[k][j].toNat_lt
              have hx8 : bits .xor .u8 ((s : Int) % 256) (ls[k][j].toNat : Int) = ((s % 256 ^^^ ls[k][j].toNat : Nat) : Int) := u8_xor_nat (s % 256) _ (by omega) hb
              have hxl : s % 256 ^^^ ls[k][j].toNat < 256 := Nat.xor_lt_two_pow (n := 8) (by omega) hb
              have htab := get_tab _ hxl
              have hgo := tab_go s ls[k][j] hs
              have HG := Lib.hid hgo
              clear hgo
              go_wp2
              go_round
              case rel => exact ⟨j + 1, by omega, by go_num, by rw [HT.out, ← HG.out]⟩
              case measure => simp [intOf]; omega
          · have e : j = ls[k].length := by omega
            subst e
            go_wp2
            go_round
            case rel => exact ⟨k + 1, by omega, by go_num, by rw [HF.out, List.take_length]⟩
            case measure => simp [intOf]; omega
    · have e : k = ls.length := by omega
      subst e
      have hs := st_lt ls.flatten
      have hn := not32 (st ls.flatten) hs
      have HN := Lib.hid hn
      clear hn
      rw [List.take_length]
      go_wp2
      go_ret
      refine ⟨?_, rfl⟩
      show Ending.returned (.int .u32 (bits .xor .u32 IntKind.u32.max (st ls.flatten : Int))) = _
      rw [HN.out]
      rfl
theorem sum_below (v : Value) (ls : List (List UInt8)) (w : World) (hv : Rows8 w v ls) :
    Calls Tryd.prog 94 #[.agg tab, v] w fun e w' => e = .returned (.int .u32 (crc8 ls.flatten : Nat)) ∧ Below w.heap.size w w' :=
  (sum_any v ls w hv).mono fun _ _ ⟨h1, h2⟩ => ⟨h1, h2 ▸ bal (bre w) _⟩
end Go.Proofs.YtacfkhnajdneeaaDoor
/- Walks: the reference's Sum and low. -/
namespace Go.Proofs.YtacfkhnajdneeaaDoor
open Go.RowKit

theorem not_sub (s : Nat) (hs : s < 4294967296) : s ^^^ Crc.ones = 4294967295 - s := by
  have e1 : Crc.ones = 2 ^ 32 - 1 := by decide
  have e2 : 4294967295 - s = 2 ^ 32 - (s + 1) := by omega
  rw [e1, e2]
  apply Nat.eq_of_testBit_eq
  intro i
  rw [Nat.testBit_xor, Nat.testBit_two_pow_sub_one, Nat.testBit_two_pow_sub_succ (by omega)]
  by_cases hi : i < 32
  · simp [hi]
  · have h : s.testBit i = false := Nat.testBit_lt_two_pow (Nat.lt_of_lt_of_le hs (by
      have := Nat.pow_le_pow_right (n := 2) (by omega) (show 32 ≤ i by omega)
      omega))
    simp [hi, h]

theorem par (y b j : Nat) (hb : b < 256) : ((IntKind.u64.wrap ((y : Int) % 2 + (b : Int) / 2 ^ j)).tmod 2 == 1) = decide ((y + b / 2 ^ j) % 2 = 1) := by
  have h1 : (b : Int) / 2 ^ j = ((b / 2 ^ j : Nat) : Int) := by simp
  have h2 : b / 2 ^ j ≤ b := Nat.div_le_self _ _
  rw [h1]
  generalize b / 2 ^ j = c at *
  have h3 : IntKind.u64.wrap ((y : Int) % 2 + (c : Int)) = (((y % 2 + c : Nat)) : Int) := by
    rw [IntKind.wrap_u64]; omega
  rw [h3, Int.tmod_eq_emod_of_nonneg (by omega), Bool.eq_iff_iff]
  simp
  omega

theorem bits_next (j x y b : Nat) (h : Crc.bits j x = y ^^^ b / 2 ^ j) : Crc.bits (j + 1) x = (if (y + b / 2 ^ j) % 2 = 1 then y / 2 ^^^ Crc.poly else y / 2) ^^^ b / 2 ^ (j + 1) := by
  rw [Crc.bits_add, h]
  show Crc.bit _ = _
  unfold Crc.bit
  have h2 : b / 2 ^ j / 2 = b / 2 ^ (j + 1) := by rw [Nat.div_div_eq_div_mul, Nat.pow_succ]
  rw [Crc.div2_xor, Crc.mod2_xor, h2, show (y % 2 + b / 2 ^ j % 2) % 2 = (y + b / 2 ^ j) % 2 by omega]
  split
  · ac_rfl
  · simp

set_option maxRecDepth 10000 in
set_option maxHeartbeats 400000 in
theorem rsum_any (v : Value) (p : List UInt8) (w : World) (hv : Bytes w v p) :
    Calls Tryd.prog 80 #[v] w fun e w' => e = .returned (.int .u32 (crc8 p : Nat)) ∧ w' = w := by
  obtain ⟨a, c, rfl, hm, hc, _, hrow⟩ := hv
  unfold maxLen at hm
  have HR := Lib.hid hrow
  clear hrow
  go_enter Tryd.func80, Tryd.ntmps80
  go_wp2
  go_loop [3, 5, 6, 7, 10] (fun c _ _ _ i => ∃ k s : Nat, k ≤ p.length ∧ i = .int .i64 k ∧ s < 4294967296 ∧ Hid (s = st (p.take k)) ∧ c = .int .u64 s) (fun _ _ _ _ i => p.length - (intOf i).toNat)
  case atStart => exact ⟨0, 4294967295, by omega, rfl, by omega, Lib.hid rfl, rfl⟩
  case round =>
    obtain ⟨k, s, hk, rfl, hs, HS, rfl⟩ := hrel
    by_cases hlt : k < p.length
    · rcases HR.out with h0 | ⟨g, o, rfl, hcell⟩
      · subst h0; simp at hlt
      · obtain ⟨_, hu, rfl⟩ := hcell k _ (List.getElem?_eq_getElem hlt)
        clear hcell
        unfold B8 at hu
        have hts := st_snoc (p.take k) p[k]
        rw [← take_snoc_u8 _ _ hlt, ← HS.out] at hts
        have HT := Lib.hid hts
        clear hts
        have hb := p[k].toNat_lt
        have h256 : (2 : Nat) ^ 8 = 256 := by decide
        rw [h256] at hb
        clear h256
        generalize p[k].toNat = b at *
        go_wp2
        go_loop [3, 6, 7] (fun c i _ => ∃ j y : Nat, j ≤ 8 ∧ i = .int .i64 j ∧ y < 4294967296 ∧ Hid (Crc.bits j (s ^^^ b) = y ^^^ (b / 2 ^ j)) ∧ c = .int .u64 y) (fun _ i _ => 8 - (intOf i).toNat)
        case atStart => exact ⟨0, s, by omega, rfl, hs, Lib.hid (by simp [Crc.bits]), rfl⟩
        case round =>
          obtain ⟨j, y, hj, rfl, hy, HY, rfl⟩ := hrel
          by_cases hlt2 : j < 8
          · have hp := par y b j hb
            have hn := bits_next j _ y b HY.out
            by_cases hpar : (y + b / 2 ^ j) % 2 = 1
            · rw [decide_eq_true hpar] at hp
              rw [if_pos hpar] at hn
              have HN := Lib.hid hn
              have hx : bits .xor .u64 ((y : Int) / 2) 3988292384 = ((y / 2 ^^^ Crc.poly : Nat) : Int) := u64_xor_nat (y / 2) 3988292384 (by omega) (by omega)
              have hxl : y / 2 ^^^ Crc.poly < 4294967296 := Crc.xor_lt (by omega) (by decide)
              clear hpar hn HY
              go_wp2
              go_round
              case rel => exact ⟨j + 1, _, by omega, by go_num, hxl, HN, rfl⟩
              case measure => simp [intOf]; omega
            · rw [decide_eq_false hpar] at hp
              rw [if_neg hpar] at hn
              have HN := Lib.hid hn
              clear hpar hn HY
              go_wp2
              go_round
              case rel => exact ⟨j + 1, y / 2, by omega, by go_num, by omega, HN, by go_num⟩
              case measure => simp [intOf]; omega
          · have e : j = 8 := by omega
            subst e
            have h8 := HY.out
            rw [show b / 2 ^ 8 = 0 by omega, Nat.xor_zero] at h8
            have H8 := Lib.hid h8
            clear h8 HY
            go_wp2
            go_round
            case rel => exact ⟨k + 1, y, by omega, by go_num, hy, Lib.hid (by rw [HT.out, ← H8.out]; rfl), rfl⟩
            case measure => simp [intOf]; omega
    · have e : k = p.length := by omega
      subst e
      have hsum : (4294967295 : Int) - s = ((s ^^^ Crc.ones : Nat) : Int) := by
        have := not_sub s hs
        omega
      have hl := HS.out
      rw [List.take_length] at hl
      have HF : Hid (crc8 p = s ^^^ Crc.ones) := Lib.hid (by rw [hl]; rfl)
      have HSM := Lib.hid hsum
      clear hl hsum
      go_wp2
      go_ret
      refine ⟨?_, rfl⟩
      rw [HF.out, ← HSM.out]
      rfl

/-- a sum's bytes, the lowest first -/
def lows (n : Nat) : List UInt8 := [UInt8.ofNat (n % 256), UInt8.ofNat (n / 256 % 256), UInt8.ofNat (n / 65536 % 256), UInt8.ofNat (n / 16777216 % 256)]

theorem B8_ofNat (n : Nat) (h : n < 256) : B8 (UInt8.ofNat n) = .int .u8 (n : Int) := by
  unfold B8
  rw [UInt8.toNat_ofNat_of_lt' (by simpa using h)]

def lowCells (n : Nat) : Array Value := #[.int .u8 ((n : Int) % 256), .int .u8 ((n : Int) / 256 % 256), .int .u8 ((n : Int) / 65536 % 256), .int .u8 ((n : Int) / 16777216)]
theorem lows_lit (n : Nat) (hn : n < 4294967296) : (lowCells n).toList = (lows n).map B8 := by
  have e : n / 16777216 % 256 = n / 16777216 := by omega
  unfold lows lowCells
  simp only [List.map_cons, List.map_nil]
  rw [B8_ofNat _ (by omega), B8_ofNat _ (by omega), B8_ofNat _ (by omega), B8_ofNat _ (by omega), e]
  simp

set_option maxRecDepth 10000 in
set_option maxHeartbeats 400000 in
theorem low_any (n : Nat) (hn : n < 4294967296) (w : World) :
    Calls Tryd.prog 79 #[.int .u32 n] w fun e w' => ∃ v', e = .returned v' ∧ Own8 5 w.heap.size w' v' (lows n) ∧ Below w.heap.size w w' := by
  go_enter Tryd.func79, Tryd.ntmps79
  go_wp2
  go_ret
  exact ⟨_, rfl, own8_lit _ _ _ _ _ (lows_lit n hn) rfl (by simp [lows, maxLen]), (Below.refl _ _).alloc (Nat.le_refl _) _⟩
end Go.Proofs.YtacfkhnajdneeaaDoor
/- Walk: Cut: the first bytes of a text, in memory of its own. -/
namespace Go.Proofs.YtacfkhnajdneeaaDoor
open Go.RowKit

theorem row8 : RowTy Tryd.prog 23 5 1 1 := RowTy.mk' (z := .int .u8 0) Tryd.underlying23 (by kernel_rfl) rfl (by omega)

theorem take_take_snoc (p : List UInt8) (k m : Nat) (hk : k < p.length) : (p.take (k + 1)).take m = if k < m then (p.take k).take m ++ [p[k]] else (p.take k).take m := by
  rw [List.take_take, List.take_take]
  by_cases h : k < m
  · rw [if_pos h, show min m (k + 1) = k + 1 by omega, show min m k = k by omega, List.take_succ_eq_append_getElem hk]
  · rw [if_neg h, show min m (k + 1) = m by omega, show min m k = m by omega]

set_option maxRecDepth 10000 in
set_option maxHeartbeats 400000 in
theorem cut_any (v : Value) (p : List UInt8) (m : Int) (hm0 : 0 ≤ m) (hm1 : m ≤ 1000000) (w : World) (hv : Bytes w v p) :
    Calls Tryd.prog 11 #[v, .int .i64 m] w fun e w' => ∃ v', e = .returned v' ∧ Own8 5 w.heap.size w' v' (p.take m.toNat) ∧ Below w.heap.size w w' := by
  obtain ⟨m, rfl⟩ := Int.eq_ofNat_of_zero_le hm0
  rw [Int.toNat_natCast]
  obtain ⟨a, c, rfl, hm, hc, _, hrow⟩ := hv
  unfold maxLen at hm
  have HR := Lib.hid hrow
  clear hrow
  go_enter Tryd.func11, Tryd.ntmps11
  go_wp2
  go_loopw [5, 6, 7, 10] (fun out _ _ i wr => ∃ (k : Nat) (l : List UInt8), k ≤ p.length ∧ i = .int .i64 k ∧ Hid (l = (p.take k).take m) ∧ Own8 5 w.heap.size wr out l ∧ Below w.heap.size w wr) (fun _ _ _ i _ => p.length - (intOf i).toNat)
  case atStart => exact ⟨0, [], by omega, rfl, Lib.hid (by simp), Own8.nil _ _ _, Below.refl _ _⟩
  case round =>
    obtain ⟨k, l, hk, rfl, HL, hown, hb⟩ := hrel
    by_cases hlt : k < p.length
    · rcases HR.out with h0 | ⟨g, o, rfl, hcell⟩
      · subst h0; simp at hlt
      · obtain ⟨_, hu, rfl⟩ := hcell k _ (List.getElem?_eq_getElem hlt)
        clear hcell
        have hg : g < w.heap.size := block_lt_of_cell hu
        have hu' : wr.cell? ⟨g, o + k, none⟩ = some (B8 p[k]) := (hb.cell hg).trans hu
        have hg' : g < wr.heap.size := block_lt_of_cell hu'
        clear hu
        have hts := take_take_snoc p k m hlt
        rw [← HL.out] at hts
        by_cases hmk : k < m
        · rw [if_pos hmk] at hts
          have HT := Lib.hid hts
          clear hts
          have hlen : l.length ≤ k := by rw [HL.out]; simp; omega
          generalize p[k] = b at *
          unfold B8 at hu'
          have hB : Below w.heap.size w (wr.alloc (.cells #[.int .u8 (b.toNat : Int)] 5)) := hb.alloc hb.size _
          go_wp2_with (at_builtin; refine wpList_app8 rfl _ _ 23 5 row8 rfl w.heap.size _ l rfl (World.ownsRow.alloc hown _) _ [b] rfl (bytes_one _ b _) (by simp; omega) (by exact hB.size) ?_; intro v' w1 h1 _ h3)
          have hb1 : Below w.heap.size w w1 := hB.trans h3
          clear h3 hown hb hu' hg' hB
          go_wp2
          go_roundw
          case rel => exact ⟨k + 1, _, by omega, by go_num, Lib.hid HT.out.symm, h1, hb1⟩
          case measure => simp [intOf]; omega
        · rw [if_neg hmk] at hts
          have HT := Lib.hid hts
          clear hts
          go_wp2
          go_roundw
          case rel => exact ⟨k + 1, l, by omega, by go_num, Lib.hid HT.out.symm, hown, hb⟩
          case measure => simp [intOf]; omega
    · have e : k = p.length := by omega
      subst e
      have hl := HL.out
      rw [List.take_length] at hl
      subst hl
      go_wp2
      go_ret
      exact ⟨_, rfl, hown, hb⟩
end Go.Proofs.YtacfkhnajdneeaaDoor
/- Walk: bytes.Clone. -/
namespace Go.Proofs.YtacfkhnajdneeaaDoor
open Go.RowKit

set_option maxRecDepth 10000 in
set_option maxHeartbeats 400000 in
theorem clone_any (v : Value) (p : List UInt8) (w : World) (hv : Bytes w v p) (hbig : p.length ≤ 140737488355328) :
    Calls Tryd.prog 55 #[v] w fun e w' => ∃ v', e = .returned v' ∧ Own8 5 w.heap.size w' v' p ∧ Below w.heap.size w w' := by
  obtain ⟨a, c, rfl, hm, hc, hnil, hrow⟩ := id hv
  have HR := Lib.hid hrow
  clear hrow
  have hb : Below w.heap.size w (w.alloc (.cells #[] 5)) := (Below.refl _ _).alloc (Nat.le_refl _) _
  have hv2 : Bytes (w.alloc (.cells #[] 5)) (.slice a p.length c) p := hv.below hb
  have hown : Own8 5 w.heap.size (w.alloc (.cells #[] 5)) (.slice (some ⟨w.heap.size, 0, none⟩) 0 0) [] := World.ownsRow_made w #[] 0 (Nat.le_refl _) (by simp [maxLen]) (by simp)
  have he := fun (w : World) (a : Option Addr) (n c n' c' : Nat) => Lib.run_eql_slice_nil (P := Tryd.prog) w 23 5 a n c n' c' Tryd.underlying23
  cases a with
  | none =>
    have hc0 := hnil rfl
    subst hc0
    have hp : p = [] := List.length_eq_zero_iff.1 (by omega)
    subst hp
    go_enter Tryd.func55, Tryd.ntmps55
    go_wp2
    go_ret
    exact ⟨_, rfl, Own8.nil _ _ _, Below.refl _ _⟩
  | some ad =>
    go_enter Tryd.func55, Tryd.ntmps55
    go_wp2_with (at_builtin; refine wpList_app8 rfl _ _ 23 5 row8 rfl w.heap.size _ [] rfl hown _ p rfl hv2 (by simpa using hbig) (by exact hb.size) ?_; intro v' w1 h1 _ h3)
    go_ret
    exact ⟨_, rfl, h1, hb.trans h3⟩

end Go.Proofs.YtacfkhnajdneeaaDoor
/- Walk: bytes.Equal. -/
namespace Go.Proofs.YtacfkhnajdneeaaDoor
open Go.RowKit

set_option maxRecDepth 10000 in
set_option maxHeartbeats 400000 in
theorem equal_any (v u : Value) (p q : List UInt8) (w : World) (hv : Bytes w v p) (hq : Bytes w u q) :
    Calls Tryd.prog 92 #[v, u] w fun e w' => e = .returned (.bool (decide (p = q))) ∧ w' = w := by
  have h1 := run_str (P := Tryd.prog) w 23 9 5 v p hv Tryd.underlying23 Tryd.underlying5 Tryd.underlying9
  have h2 := run_str (P := Tryd.prog) w 23 9 5 u q hq Tryd.underlying23 Tryd.underlying5 Tryd.underlying9
  generalize hs : strOf p = s at *
  generalize ht : strOf q = t at *
  have HS := Lib.hid hs
  have HT := Lib.hid ht
  clear hs ht hv hq
  go_enter Tryd.func92, Tryd.ntmps92
  go_wp2
  go_ret
  refine ⟨?_, rfl⟩
  show Ending.returned (.bool (s.toList == t.toList)) = _
  rw [← HS.out, ← HT.out, strOf_toList, strOf_toList]
  congr 2
  rw [Bool.eq_iff_iff]
  simp

end Go.Proofs.YtacfkhnajdneeaaDoor
/- Walk: Join: texts behind one another. -/
namespace Go.Proofs.YtacfkhnajdneeaaDoor
open Go.RowKit

theorem flat_snoc' (ls : List (List UInt8)) (k : Nat) (h : k < ls.length) : (ls.take (k + 1)).flatten = (ls.take k).flatten ++ ls[k] := by
  rw [List.take_succ_eq_append_getElem h, List.flatten_append]; simp

set_option maxRecDepth 10000 in
set_option maxHeartbeats 400000 in
theorem join_any (v : Value) (ls : List (List UInt8)) (w : World) (hv : Rows8 w v ls) (hbig : ls.flatten.length ≤ 140737488355328) :
    Calls Tryd.prog 59 #[v] w fun e w' => ∃ v', e = .returned v' ∧ Own8 5 w.heap.size w' v' ls.flatten ∧ Below w.heap.size w w' := by
  obtain ⟨a, c, rfl, hm, hc, _, hrow⟩ := hv
  unfold maxLen at hm
  have HR := Lib.hid hrow
  clear hrow
  go_enter Tryd.func59, Tryd.ntmps59
  go_wp2
  go_loopw [3, 5, 8] (fun out _ i wr => ∃ (k : Nat) (l : List UInt8), k ≤ ls.length ∧ i = .int .i64 k ∧ Hid (l = (ls.take k).flatten) ∧ Own8 5 w.heap.size wr out l ∧ Below w.heap.size w wr) (fun _ _ i _ => ls.length - (intOf i).toNat)
  case atStart => exact ⟨0, [], by omega, rfl, Lib.hid (by simp), Own8.nil _ _ _, Below.refl _ _⟩
  case round =>
    obtain ⟨k, l, hk, rfl, HL, hown, hb⟩ := hrel
    by_cases hlt : k < ls.length
    · rcases HR.out with h0 | ⟨g, o, rfl, hcell⟩
      · subst h0; simp at hlt
      · obtain ⟨u, hu, hbu⟩ := hcell k _ (List.getElem?_eq_getElem hlt)
        clear hcell
        have hg : g < w.heap.size := block_lt_of_cell hu
        have hu' : wr.cell? ⟨g, o + k, none⟩ = some u := (hb.cell hg).trans hu
        have hg' : g < wr.heap.size := block_lt_of_cell hu'
        have hbu' : Bytes wr u ls[k] := hbu.below hb
        have hts := flat_snoc' ls k hlt
        rw [← HL.out] at hts
        have HT := Lib.hid hts
        have hlen : l.length + ls[k].length ≤ 140737488355328 := by
          have h1 : (ls.take (k + 1)).flatten.length ≤ ls.flatten.length := by
            conv => rhs; rw [← List.take_append_drop (k + 1) ls, List.flatten_append, List.length_append]
            omega
          rw [hts, List.length_append] at h1
          omega
        clear hts hu hbu
        generalize ls[k] = x at *
        have hsz := hb.size
        go_wp2_with (at_builtin; refine wpList_app8 rfl _ _ 23 5 row8 rfl w.heap.size _ l rfl hown _ x rfl hbu' hlen hsz ?_; intro v' w1 h1 _ h3)
        have hb1 : Below w.heap.size w w1 := hb.trans h3
        clear h3 hown hb hu' hg' hbu' hsz
        go_wp2
        go_roundw
        case rel => exact ⟨k + 1, _, by omega, by go_num, Lib.hid HT.out.symm, h1, hb1⟩
        case measure => simp [intOf]; omega
    · have e : k = ls.length := by omega
      subst e
      have hl := HL.out
      rw [List.take_length] at hl
      subst hl
      go_wp2
      go_ret
      exact ⟨_, rfl, hown, hb⟩
end Go.Proofs.YtacfkhnajdneeaaDoor
/- Walk: Same: are two texts alike? -/
namespace Go.Proofs.YtacfkhnajdneeaaDoor
open Go.RowKit

set_option maxRecDepth 10000 in
set_option maxHeartbeats 400000 in
theorem same_any (v u : Value) (p q : List UInt8) (w : World) (hv : Bytes w v p) (hq : Bytes w u q) :
    Calls Tryd.prog 15 #[v, u] w fun e w' => e = .returned (.bool (decide (p = q))) ∧ ∃ n, w' = w.drewN n := by
  obtain ⟨a, c, rfl, hm, hc, _, hrow⟩ := hv
  obtain ⟨a2, c2, rfl, hm2, hc2, _, hrow2⟩ := hq
  unfold maxLen at hm hm2
  have HR := Lib.hid hrow
  have HR2 := Lib.hid hrow2
  clear hrow hrow2
  by_cases hl : p.length = q.length
  · have hlb : ((p.length : Int) != (q.length : Int)) = false := by simp [hl]
    have HL := Lib.hid hl
    clear hl
    go_enter Tryd.func15, Tryd.ntmps15
    go_wp2
    go_loopw [5, 13] (fun _ i wr => ∃ k n : Nat, k ≤ p.length ∧ i = .int .i64 k ∧ wr = w.drewN n ∧ Hid (p.take k = q.take k)) (fun _ i _ => p.length - (intOf i).toNat)
    case atStart => exact ⟨0, 0, by omega, rfl, rfl, Lib.hid rfl⟩
    case round =>
      obtain ⟨k, n, hk, rfl, rfl, HT⟩ := hrel
      by_cases hlt : k < p.length
      · have hlt2 : k < q.length := by have := HL.out; omega
        rcases HR.out with h0 | ⟨g, o, rfl, hcell⟩
        · subst h0; simp at hlt
        rcases HR2.out with h0 | ⟨g2, o2, rfl, hcell2⟩
        · subst h0; simp at hlt2
        obtain ⟨_, hu, rfl⟩ := hcell k _ (List.getElem?_eq_getElem hlt)
        obtain ⟨_, hu2, rfl⟩ := hcell2 k _ (List.getElem?_eq_getElem hlt2)
        unfold B8 at hu hu2
        clear hcell hcell2
        have hp := List.take_succ_eq_append_getElem hlt
        have hq := List.take_succ_eq_append_getElem hlt2
        by_cases hpq : p[k] = q[k]
        · have hb : ((p[k].toNat : Int) != (q[k].toNat : Int)) = false := by simp [hpq]
          have HT1 : Hid (p.take (k + 1) = q.take (k + 1)) := Lib.hid (by rw [hp, hq, HT.out, hpq])
          clear hpq hp hq HT
          go_wp2_with fail
          go_quiet (fail)
          go_wp2
          go_roundw
          case rel => exact ⟨k + 1, _, by omega, by go_num, rfl, HT1⟩
          case measure => simp [intOf]; omega
        · have hb : ((p[k].toNat : Int) != (q[k].toNat : Int)) = true := by
            simp only [bne_iff_ne, ne_eq, Int.natCast_inj]
            exact fun h => hpq (UInt8.toNat_inj.1 h)
          have hne : p ≠ q := by
            intro h
            subst h
            exact hpq rfl
          have HN := Lib.hid hne
          clear hpq hp hq HT hne
          go_wp2_with fail
          go_quiet (fail)
          go_wp2
          go_ret
          exact ⟨by rw [decide_eq_false HN.out]; rfl, n + nq, by simp⟩
      · have e : k = p.length := by omega
        subst e
        have hpq : p = q := by
          have h := HT.out
          rw [List.take_length, List.take_of_length_le (by have := HL.out; omega)] at h
          exact h
        have HN := Lib.hid hpq
        clear hpq
        go_wp2
        go_ret
        exact ⟨by rw [decide_eq_true HN.out]; rfl, _, rfl⟩
  · have hlb : ((p.length : Int) != (q.length : Int)) = true := by simp; omega
    have hne : decide (p = q) = false := by simp; intro h; subst h; exact hl rfl
    go_enter Tryd.func15, Tryd.ntmps15
    go_wp2
    go_ret
    exact ⟨rfl, 0, rfl⟩
end Go.Proofs.YtacfkhnajdneeaaDoor
/- Walks: Table.Seal, Table.Open, the reference's Seal and Open. -/
namespace Go.Proofs.YtacfkhnajdneeaaDoor
open Go.RowKit

theorem crc8_lt (p : List UInt8) : crc8 p < 4294967296 := Crc.xor_lt (st_lt p) (by decide)

/-- one row of bytes in a new block -/
theorem rows_one (w : World) (v : Value) (p : List UInt8) (e : TypeId) (n : Nat) (hn : n = w.heap.size) (h : Bytes w v p) : Rows8 (w.alloc (.cells #[v] e)) (.slice (some ⟨n, 0, none⟩) 1 1) [p] :=
  hn ▸ ⟨_, 1, rfl, by simp [maxLen], Nat.le_refl _, fun h => (by cases h), .inr ⟨_, _, rfl, fun j x hx => ⟨v, by
    have := World.cell?_alloc_new w #[v] e j
    rw [Nat.zero_add, this]
    have : j = 0 := by have := (List.getElem?_eq_some_iff.1 hx).1; simpa using this
    subst this
    rfl, by
    have : j = 0 := by have := (List.getElem?_eq_some_iff.1 hx).1; simpa using this
    subst this
    simp at hx
    subst hx
    exact h.below ((Below.refl _ _).alloc (Nat.le_refl _) _)⟩⟩⟩

theorem heap_box (w : World) (cs : Array Value) (t : TypeId) : (w.alloc (.cells cs t)).heap[w.heap.size]? = some (.cells cs t (0, 0)) := heap_alloc_new w _

set_option maxRecDepth 10000 in
set_option maxHeartbeats 400000 in
theorem seal_any (v : Value) (p : List UInt8) (w : World) (hv : Bytes w v p) (hbig : p.length ≤ 100000000) :
    Calls Tryd.prog 89 #[.agg tab, v] w fun e w' => ∃ v', e = .returned v' ∧ Own8 5 w.heap.size w' v' (p ++ lows (crc8 p)) ∧ Below w.heap.size w w' := by
  obtain ⟨a, cp, rfl, _, _, _, _⟩ := id hv
  have hc := crc8_lt p
  have hit : (Tryd.prog.info? 134).map (·.size) = some tab.size := by rw [size_tab]; exact info_tab
  have HI := Lib.hid hit
  clear hit
  have HB := Lib.hid (heap_box w tab 134)
  have hb1 : Below w.heap.size w (w.alloc (.cells tab 134)) := (Below.refl _ _).alloc (Nat.le_refl _) _
  have hv1 := hv.below hb1
  have hr := rows_one _ (.slice a p.length cp) p 23 (w.heap.size + 1) (by simp) hv1
  go_enter Tryd.func89, Tryd.ntmps89
  go_wp2_with (first | (with_reducible refine wpList_load_row rfl 134 _ rfl w.heap.size rfl 134 tab (0, 0) _ HB.out Tryd.underlying134 rfl HI.out ?_) | (go_at_call 94; refine (sum_any _ _ _ hr).mono ?_; rintro e w' ⟨rfl, rfl⟩))
  have hb3 : Below w.heap.size w (((w.alloc (.cells tab 134)).alloc (.cells #[.slice a p.length cp] 23)).alloc (.cells tab 134)) := (hb1.alloc (by simp) _).alloc (by simp; omega) _
  have hv3 := hv.below hb3
  refine (clone_any _ p _ hv3 (by omega)).mono ?_
  rintro e w1 ⟨v1, rfl, hown, hb4⟩
  have hsz := hb4.size
  have hown1 := ownsRow_base (base' := w.heap.size) hown (by simp; omega)
  have hb5 : Below w.heap.size w w1 := hb3.trans (hb4.mono (by simp; omega))
  clear hb3 hb4 hr hv1 hv3 hown
  have hsrc : Bytes (w1.alloc (.cells (lowCells (crc8 p)) 5)) (.slice (some ⟨w1.heap.size, 0, none⟩) 4 4) (lows (crc8 p)) := (own8_lit _ _ _ _ _ (lows_lit _ hc) rfl (by simp [lows, maxLen])).bytes
  have hb6 : Below w.heap.size w (w1.alloc (.cells (lowCells (crc8 p)) 5)) := hb5.alloc hb5.size _
  have hown2 : Own8 5 w.heap.size (w1.alloc (.cells (lowCells (crc8 p)) 5)) v1 p := World.ownsRow.alloc hown1 _
  unfold lowCells at hsrc hb6 hown2
  have hll : p.length + (lows (crc8 p)).length ≤ 140737488355328 := by simp [lows]; omega
  have hsz6 := hb6.size
  go_wp2_with (at_builtin; refine wpList_app8 rfl _ _ 23 5 row8 rfl w.heap.size _ p rfl hown2 _ _ rfl hsrc hll hsz6 ?_; intro v' w2 h1 _ h3)
  go_ret
  exact ⟨_, rfl, h1, hb6.trans h3⟩
end Go.Proofs.YtacfkhnajdneeaaDoor
/- Walks: Table.Open. -/
namespace Go.Proofs.YtacfkhnajdneeaaDoor
open Go.RowKit

set_option maxRecDepth 10000 in
set_option maxHeartbeats 400000 in
theorem open_short (v : Value) (p : List UInt8) (w : World) (hv : Bytes w v p) (h4 : p.length < 4) :
    Calls Tryd.prog 84 #[.agg tab, v] w fun e w' => e = .returned (.tuple #[.slice none 0 0, .int .i64 2]) ∧ Below w.heap.size w w' := by
  obtain ⟨a, cp, rfl, _, _, _, _⟩ := id hv
  go_enter Tryd.func84, Tryd.ntmps84
  go_wp2
  go_ret2
  exact ⟨rfl, (Below.refl _ _).alloc (Nat.le_refl _) _⟩

/-- what Open tells of bytes -/
def OpenPost (w : World) (p : List UInt8) (m : Nat) (e : Ending) (w' : World) : Prop :=
  Below w.heap.size w w' ∧ ((p = p.take m ++ lows (crc8 (p.take m)) ∧ ∃ v', e = .returned (.tuple #[v', .int .i64 0]) ∧ Own8 5 w.heap.size w' v' (p.take m)) ∨
    (p ≠ p.take m ++ lows (crc8 (p.take m)) ∧ e = .returned (.tuple #[.slice none 0 0, .int .i64 7])))

set_option maxRecDepth 10000 in
set_option maxHeartbeats 400000 in
theorem open_long (v : Value) (p : List UInt8) (m : Nat) (w : World) (hv : Bytes w v p) (hm : p.length = m + 4) (hbig : p.length ≤ 100000000) :
    Calls Tryd.prog 84 #[.agg tab, v] w (OpenPost w p m) := by
  obtain ⟨a, cp, rfl, _, hcp, _, _⟩ := id hv
  rw [hm] at hv hcp ⊢
  have hit : (Tryd.prog.info? 134).map (·.size) = some tabL.length := by rw [size_tabL]; exact info_tab
  have hu := Tryd.underlying134
  have h0 : (0 : Int) ≤ m := by omega
  have h1 : (m : Int) ≤ cp := by omega
  have h2 : (m : Int) ≤ 100000000 := by omega
  have hb1 : Below w.heap.size w (w.alloc (.cells tab 134)) := (Below.refl _ _).alloc (Nat.le_refl _) _
  have hS : (w.alloc (.cells tab 134)).drew.rangeAt w.heap.size 0 tabL := rangeAt_new w tabL _ _ rfl
  have hvd : Bytes (w.alloc (.cells tab 134)).drew (.slice a (m + 4) cp) p := hv.below hb1.drew
  have hvt : Bytes (w.alloc (.cells tab 134)).drew (.slice a m cp) (p.take m) := hvd.firsts m (by omega)
  obtain ⟨q, hq⟩ : ∃ q, q = p.take m := ⟨_, rfl⟩
  rw [← hq] at hvt
  have hql : q.length ≤ 100000000 := by rw [hq]; simp; omega
  have HQ := Lib.hid hq
  have HM := Lib.hid hm
  clear hm hcp hq
  by_cases he : q ++ lows (crc8 q) = p
  · have hd : decide (q ++ lows (crc8 q) = p) = true := decide_eq_true he
    have HE := Lib.hid he
    clear he
    go_enter Tryd.func84, Tryd.ntmps84
    go_wp2_with fail
    go_region_held3 (fun w' => w'.rangeAt w.heap.size 0 tabL) (first | exact hS | (exact rangeAt_below hS hb3 (by simp))) (first | (go_at_call 89; refine (seal_any _ q _ hvt hql).mono ?_; rintro e w1 ⟨v1, rfl, hown, hb3⟩) | (go_at_call 92; refine (equal_any _ _ _ p _ hown.bytes (hvd.below hb3)).mono ?_; rintro e w2 ⟨rfl, hw2⟩; subst hw2))
    go_wp2_with fail
    have hb4 : Below w.heap.size w w2 := hb1.drew.trans (hb3.mono (by simp))
    refine (clone_any _ q _ (hvt.below hb3) (by omega)).mono ?_
    rintro e w3 ⟨v3, rfl, hown3, hb5⟩
    have hsz := hb4.size
    have hb6 : Below w.heap.size w w3 := hb4.trans (hb5.mono hsz)
    have hown4 : Own8 5 w.heap.size w3 v3 q := ownsRow_base hown3 hsz
    clear hb3 hb4 hb5 hown hown3 hsz
    go_wp2
    go_ret2
    have hq := HQ.out
    refine ⟨hb6, .inl ⟨by rw [← hq]; exact HE.out.symm, v3, rfl, by rw [← hq]; exact hown4⟩⟩
  · have hd : decide (q ++ lows (crc8 q) = p) = false := decide_eq_false he
    have HE := Lib.hid he
    clear he
    go_enter Tryd.func84, Tryd.ntmps84
    go_wp2_with fail
    go_region_held3 (fun w' => w'.rangeAt w.heap.size 0 tabL) (first | exact hS | (exact rangeAt_below hS hb3 (by simp))) (first | (go_at_call 89; refine (seal_any _ q _ hvt hql).mono ?_; rintro e w1 ⟨v1, rfl, hown, hb3⟩) | (go_at_call 92; refine (equal_any _ _ _ p _ hown.bytes (hvd.below hb3)).mono ?_; rintro e w2 ⟨rfl, hw2⟩; subst hw2))
    go_wp2_with fail
    have hb4 : Below w.heap.size w w2 := hb1.drew.trans (hb3.mono (by simp))
    go_ret2
    have hq := HQ.out
    refine ⟨hb4, .inr ⟨by rw [← hq]; exact fun h => HE.out h.symm, rfl⟩⟩
end Go.Proofs.YtacfkhnajdneeaaDoor
/- Walks: the reference's Seal and Open. -/
namespace Go.Proofs.YtacfkhnajdneeaaDoor
open Go.RowKit

set_option maxRecDepth 10000 in
set_option maxHeartbeats 400000 in
theorem rseal_any (v : Value) (p : List UInt8) (w : World) (hv : Bytes w v p) (hbig : p.length ≤ 100000000) :
    Calls Tryd.prog 61 #[v] w fun e w' => ∃ v', e = .returned v' ∧ Own8 5 w.heap.size w' v' (p ++ lows (crc8 p)) ∧ Below w.heap.size w w' := by
  obtain ⟨a, c, rfl, _, _, _, _⟩ := id hv
  go_enter Tryd.func61, Tryd.ntmps61
  go_wp2_with fail
  refine (rsum_any _ p _ hv).mono ?_
  rintro e w1 ⟨rfl, hw1⟩
  subst hw1
  go_wp2_with fail
  refine (low_any _ (crc8_lt p) _).mono ?_
  rintro e w2 ⟨v2, rfl, hown, hb2⟩
  obtain ⟨a2, c2, rfl, _, _, _, _⟩ := id hown.bytes
  have hlow := hown.bytes
  have hv2 := hv.below hb2
  have hr := rows_lit2 _ _ _ _ _ 23 w2.heap.size rfl hv2 hlow
  have hcat : [p, lows (crc8 p)].flatten = p ++ lows (crc8 p) := by simp
  have hb3 := bal hb2 (.cells #[.slice a p.length c, .slice a2 (lows (crc8 p)).length c2] 23)
  have hll : (lows (crc8 p)).length = 4 := rfl
  rw [hll] at hr hb3 ⊢
  go_wp2_with fail
  refine (join_any _ _ _ hr (by rw [hcat, List.length_append, hll]; omega)).mono ?_
  rintro e w3 ⟨v3, rfl, hown3, hb4⟩
  rw [hcat] at hown3
  have hown4 := ownsRow_base hown3 hb3.size
  have hb5 := btr hb3 hb4
  clear hown3 hown hlow hr hb4 hb2 hcat hll
  go_wp2
  go_ret
  exact ⟨_, rfl, hown4, hb5⟩

set_option maxRecDepth 10000 in
set_option maxHeartbeats 400000 in
theorem ropen_short (v : Value) (p : List UInt8) (w : World) (hv : Bytes w v p) (h4 : p.length < 4) :
    Calls Tryd.prog 78 #[v] w fun e w' => e = .returned (.bool false) ∧ Below w.heap.size w w' := by
  obtain ⟨a, c, rfl, _, _, _, _⟩ := id hv
  have hd : decide ((4 : Int) ≤ (p.length : Int)) = false := by simp; omega
  go_enter Tryd.func78, Tryd.ntmps78
  go_wp2_with fail
  go_quiet (fail)
  go_wp2
  go_ret
  exact ⟨rfl, bdn (bre _) _⟩

set_option maxRecDepth 10000 in
set_option maxHeartbeats 400000 in
theorem ropen_long (v : Value) (p : List UInt8) (m : Nat) (w : World) (hv : Bytes w v p) (hm : p.length = m + 4) (hbig : p.length ≤ 100000000) :
    Calls Tryd.prog 78 #[v] w fun e w' => e = .returned (.bool (decide (p.drop m = lows (crc8 (p.take m))))) ∧ Below w.heap.size w w' := by
  obtain ⟨a, c, rfl, _, hc, _, _⟩ := id hv
  have hv1 : Bytes w (.slice a m c) (p.take m) := hv.firsts m (by omega)
  obtain ⟨A, N, C, hsuf, hv2, -⟩ := run_suffix hv m 23 5 (by omega) row8
  have hcrc := crc8_lt (p.take m)
  generalize hq : p.take m = q at *
  generalize hr : p.drop m = r at *
  rw [hm] at hsuf hc ⊢
  have h0 : (0 : Int) ≤ m := by omega
  have h1 : (m : Int) ≤ c := by omega
  have h2 : (m : Int) ≤ 100000000 := by omega
  have hd : decide ((0 : Int) ≤ m) = true := by simp
  clear hm hq hr hc hv hbig
  go_enter Tryd.func78, Tryd.ntmps78
  go_wp2_with fail
  go_region_held3 (fun _ => True) (trivial) (first | (go_at_call 80; refine (rsum_any _ q _ hv1.drew).mono ?_; rintro e w1 ⟨rfl, hw1⟩; subst hw1) | (go_at_call 79; refine (low_any _ hcrc _).mono ?_; rintro e w2 ⟨v2, rfl, hown, hb2⟩) | (go_at_call 15; refine (same_any _ _ r _ _ (hv2.below (btr (bdr (bre _)) hb2)) hown.bytes).mono ?_; rintro e w3 ⟨rfl, n, rfl⟩))
  go_wp2
  go_ret
  exact ⟨rfl, bdn (btr (bdr (bre _)) hb2) _⟩
end Go.Proofs.YtacfkhnajdneeaaDoor
/- Plain: bytes of which some of 32 bits in a row are turned have another sum. No program is in sight. -/
namespace Crc

/-- bit j of bytes -/
def bitAt (l : List Nat) (j : Nat) : Bool := (l.getD (j / 8) 0).testBit (j % 8)

theorem length_allBits (l : List Nat) : (allBits l).length = 8 * l.length := by
  induction l with
  | nil => rfl
  | cons b l ih =>
    have h : allBits (b :: l) = bitsOf b ++ allBits l := by simp [allBits]
    rw [h, List.length_append, ih, length_bitsOf, List.length_cons]; omega

theorem getElem_bitsOf (b i : Nat) (h : i < 8) : (bitsOf b)[i]? = some (b.testBit i) := by
  simp [bitsOf, h]

theorem getElem_allBits (l : List Nat) : ∀ j, j < 8 * l.length → (allBits l)[j]? = some (bitAt l j) := by
  induction l with
  | nil => intro j h; simp at h
  | cons b l ih =>
    intro j h
    have hc : allBits (b :: l) = bitsOf b ++ allBits l := by simp [allBits]
    rw [hc]
    by_cases hj : j < 8
    · rw [List.getElem?_append_left (by rw [length_bitsOf]; exact hj), getElem_bitsOf b j hj]
      unfold bitAt
      rw [show j / 8 = 0 by omega, show j % 8 = j by omega]
      rfl
    · rw [List.getElem?_append_right (by rw [length_bitsOf]; omega), length_bitsOf, ih (j - 8) (by rw [List.length_cons] at h; omega)]
      unfold bitAt
      rw [show j / 8 = (j - 8) / 8 + 1 by omega, show j % 8 = (j - 8) % 8 by omega]
      rfl

theorem word_zero {l : List Bool} (h : word l = 0) : ∀ j : Nat, l[j]? ≠ some true := by
  induction l with
  | nil => intro j; simp
  | cons b l ih =>
    have h1 : b2n b = 0 ∧ word l = 0 := by simp only [word] at h; omega
    intro j
    cases j with
    | zero => cases b <;> simp_all [b2n]
    | succ j => simpa using ih h1.2 j

theorem all_false {l : List Bool} (h : ∀ j : Nat, l[j]? ≠ some true) : l = List.replicate l.length false := by
  apply List.ext_getElem?
  intro j
  rw [List.getElem?_replicate]
  split
  · rename_i hj
    have := h j
    rw [List.getElem?_eq_getElem hj] at this ⊢
    cases hb : l[j] <;> simp_all
  · rename_i hj
    exact List.getElem?_eq_none (by omega)

/-- bits of which none is set but within 32 in a row, and of which the sum is nought: none is set -/
theorem window' (L : List Bool) (s : Nat) (hw : ∀ j : Nat, L[j]? = some true → s ≤ j ∧ j < s + 32) (h : runBits 0 L = 0) : ∀ j : Nat, L[j]? ≠ some true := by
  have hsplit : L = List.replicate (L.take s).length false ++ (L.drop s).take 32 ++ List.replicate ((L.drop s).drop 32).length false := by
    have h1 : L.take s = List.replicate (L.take s).length false := all_false (fun j hj => by
      rw [List.getElem?_take] at hj
      split at hj
      · have := hw j hj; omega
      · cases hj)
    have h2 : (L.drop s).drop 32 = List.replicate ((L.drop s).drop 32).length false := all_false (fun j hj => by
      rw [List.getElem?_drop, List.getElem?_drop] at hj
      have := hw _ hj
      omega)
    conv => lhs; rw [← List.take_append_drop s L, ← List.take_append_drop 32 (L.drop s), h1, h2]
    rw [List.append_assoc]
  rw [hsplit] at h
  have hz := word_zero (window _ _ _ (by rw [List.length_take]; omega) h)
  intro j hj
  obtain ⟨h1, h2⟩ := hw j hj
  apply hz (j - s)
  rw [List.getElem?_take, if_pos (by omega), List.getElem?_drop, show s + (j - s) = j by omega]
  exact hj

def turn (l : List Nat) (j : Nat) : List Nat := l.set (j / 8) (l.getD (j / 8) 0 ^^^ 2 ^ (j % 8))
def turns (s mask : Nat) : Nat → List Nat → List Nat
  | 0, l => l
  | k + 1, l => if s + k < 8 * l.length ∧ mask / 2 ^ k % 2 = 1 then turn (turns s mask k l) (s + k) else turns s mask k l

theorem length_turn (l : List Nat) (j : Nat) : (turn l j).length = l.length := by simp [turn]
theorem length_turns (s mask k : Nat) (l : List Nat) : (turns s mask k l).length = l.length := by
  induction k with
  | zero => rfl
  | succ k ih => simp only [turns]; split <;> simp [length_turn, ih]

theorem getD_lt {l : List Nat} (hl : ∀ b ∈ l, b < 256) (i : Nat) : l.getD i 0 < 256 := by
  rw [List.getD_eq_getElem?_getD]
  cases h : l[i]? with
  | none => simp
  | some b => exact hl b (List.mem_of_getElem? h)

theorem pow_lt8 {i : Nat} (h : i < 8) : 2 ^ i < 256 := by
  have := Nat.pow_le_pow_right (n := 2) (by omega) (show i ≤ 7 by omega)
  omega

theorem turn_lt {l : List Nat} (hl : ∀ b ∈ l, b < 256) (j : Nat) : ∀ b ∈ turn l j, b < 256 := by
  intro b hb
  rcases List.mem_or_eq_of_mem_set hb with h | h
  · exact hl b h
  · subst h
    exact Nat.xor_lt_two_pow (n := 8) (getD_lt hl _) (pow_lt8 (by omega))

theorem turns_lt {l : List Nat} (hl : ∀ b ∈ l, b < 256) (s mask k : Nat) : ∀ b ∈ turns s mask k l, b < 256 := by
  induction k with
  | zero => exact hl
  | succ k ih => simp only [turns]; split; exact turn_lt ih _; exact ih

theorem bitAt_turn (l : List Nat) (i j : Nat) (hne : i ≠ j) : bitAt (turn l i) j = bitAt l j := by
  unfold bitAt turn
  simp only [List.getD_eq_getElem?_getD, List.getElem?_set]
  by_cases h8 : i / 8 = j / 8
  · rw [if_pos h8]
    by_cases hl : i / 8 < l.length
    · rw [if_pos hl]
      simp only [Option.getD_some, Nat.testBit_xor, ← h8]
      have : Nat.testBit (2 ^ (i % 8)) (j % 8) = false := by
        rw [Nat.testBit_two_pow]
        simp; omega
      rw [this]; simp
    · rw [if_neg hl, ← h8, List.getElem?_eq_none (by omega)]
  · rw [if_neg h8]

theorem bitAt_turns (s mask k : Nat) (l : List Nat) (j : Nat) (h : bitAt (turns s mask k l) j ≠ bitAt l j) : s ≤ j ∧ j < s + k := by
  induction k with
  | zero => exact absurd rfl h
  | succ k ih =>
    simp only [turns] at h
    split at h
    · by_cases he : s + k = j
      · omega
      · rw [bitAt_turn _ _ _ he] at h
        have := ih h; omega
    · have := ih h; omega

theorem bitAt_zip (l m : List Nat) (h : l.length = m.length) (j : Nat) : bitAt (List.zipWith (· ^^^ ·) l m) j = (bitAt l j ^^ bitAt m j) := by
  unfold bitAt
  simp only [List.getD_eq_getElem?_getD, List.getElem?_zipWith]
  by_cases hj : j / 8 < l.length
  · rw [List.getElem?_eq_getElem hj, List.getElem?_eq_getElem (show j / 8 < m.length by omega)]
    simp [Nat.testBit_xor]
  · rw [List.getElem?_eq_none (by omega), List.getElem?_eq_none (show m.length ≤ j / 8 by omega)]
    simp

theorem bits_same {l m : List Nat} (h : l.length = m.length) (hl : ∀ b ∈ l, b < 256) (hm : ∀ b ∈ m, b < 256) (hb : ∀ j, j < 8 * l.length → bitAt l j = bitAt m j) : l = m := by
  apply List.ext_getElem h
  intro i h1 h2
  apply Nat.eq_of_testBit_eq
  intro t
  by_cases ht : t < 8
  · have := hb (8 * i + t) (by omega)
    unfold bitAt at this
    rw [show (8 * i + t) / 8 = i by omega, show (8 * i + t) % 8 = t by omega] at this
    simpa [List.getD_eq_getElem?_getD, List.getElem?_eq_getElem h1, List.getElem?_eq_getElem h2] using this
  · have hp : (256 : Nat) ≤ 2 ^ t := by
      have := Nat.pow_le_pow_right (n := 2) (by omega) (show 8 ≤ t by omega)
      omega
    rw [Nat.testBit_lt_two_pow (Nat.lt_of_lt_of_le (hl _ (List.getElem_mem h1)) hp), Nat.testBit_lt_two_pow (Nat.lt_of_lt_of_le (hm _ (List.getElem_mem h2)) hp)]

/-- WHAT HAS ROTTED IS SHOWN: one sum for both: then nothing is turned. -/
theorem burst {l m : List Nat} (s : Nat) (hlen : l.length = m.length) (hl : ∀ b ∈ l, b < 256) (hm : ∀ b ∈ m, b < 256)
    (hw : ∀ j, bitAt m j ≠ bitAt l j → s ≤ j ∧ j < s + 32) (h : run ones l = run ones m) : l = m := by
  have hz := run_zipXor ones ones l m hlen
  rw [h, Nat.xor_self, Nat.xor_self] at hz
  have hzl : ∀ b ∈ List.zipWith (· ^^^ ·) l m, b < 256 := by
    intro b hb
    obtain ⟨i, hi, rfl⟩ := List.mem_iff_getElem.1 hb
    rw [List.getElem_zipWith]
    rw [List.length_zipWith] at hi
    exact Nat.xor_lt_two_pow (n := 8) (hl _ (List.getElem_mem (by omega))) (hm _ (List.getElem_mem (by omega)))
  rw [run_bits _ hzl] at hz
  have hlz : (List.zipWith (· ^^^ ·) l m).length = l.length := by rw [List.length_zipWith]; omega
  have key := window' _ s (fun j hj => by
    have hj8 : j < 8 * l.length := by
      have := (List.getElem?_eq_some_iff.1 hj).1
      rw [length_allBits, hlz] at this
      exact this
    rw [getElem_allBits _ j (by rw [hlz]; exact hj8), bitAt_zip l m hlen] at hj
    refine hw j (fun e => ?_)
    rw [e] at hj
    simp at hj) hz
  refine bits_same hlen hl hm (fun j hj => ?_)
  have := key j
  rw [getElem_allBits _ j (by rw [hlz]; exact hj), bitAt_zip l m hlen] at this
  cases h1 : bitAt l j <;> cases h2 : bitAt m j <;> simp_all

theorem word_append (a b : List Bool) : word (a ++ b) = word a + 2 ^ a.length * word b := by
  induction a with
  | nil => simp [word]
  | cons x a ih => simp only [List.cons_append, word, ih, List.length_cons, Nat.pow_succ, Nat.mul_add]; rw [← Nat.mul_assoc, Nat.mul_comm 2 (2 ^ a.length)]; omega

/-- the four bytes of a word, the lowest first, leave what the word's 32 bits leave -/
theorem run_word (s c : Nat) (hc : c < 4294967296) : run s [c % 256, c / 256 % 256, c / 65536 % 256, c / 16777216 % 256] = bits 32 (s ^^^ c) := by
  rw [run_bits _ (by intro b hb; simp at hb; omega), runBits_word]
  have e : word (allBits [c % 256, c / 256 % 256, c / 65536 % 256, c / 16777216 % 256]) = c := by
    simp only [allBits, List.flatMap_cons, List.flatMap_nil, List.append_nil, word_append, length_bitsOf]
    rw [word_bitsOf (by omega), word_bitsOf (by omega), word_bitsOf (by omega), word_bitsOf (by omega)]
    omega
  rw [e, length_allBits]
  rfl

/-- what is sealed leaves one and the same rest -/
theorem rest (l : List Nat) : run ones (l ++ [crc l % 256, crc l / 256 % 256, crc l / 65536 % 256, crc l / 16777216 % 256]) = bits 32 ones ∨ ¬ (∀ b ∈ l, b < 256) := by
  by_cases hl : ∀ b ∈ l, b < 256
  · left
    have h := run_lt hl (show ones < 4294967296 by decide)
    rw [run_append, run_word _ (crc l) (xor_lt h (by decide))]
    unfold crc
    rw [← Nat.xor_assoc, Nat.xor_self, Nat.zero_xor]
  · exact .inr hl

end Crc
/- SumShows: what has rotted is shown: some of 32 bits in a row. -/
namespace Go.Proofs.YtacfkhnajdneeaaDoor
open Go.RowKit

def turn8 (l : List UInt8) (j : Nat) : List UInt8 := l.set (j / 8) (l.getD (j / 8) 0 ^^^ UInt8.ofNat (2 ^ (j % 8)))
def turns8 (s mask : Nat) : Nat → List UInt8 → List UInt8
  | 0, l => l
  | k + 1, l => if s + k < 8 * l.length ∧ mask / 2 ^ k % 2 = 1 then turn8 (turns8 s mask k l) (s + k) else turns8 s mask k l

theorem length_turns8 (s mask k : Nat) (l : List UInt8) : (turns8 s mask k l).length = l.length := by
  induction k with
  | zero => rfl
  | succ k ih => simp only [turns8]; split <;> simp [turn8, ih]

theorem nats_turn8 (l : List UInt8) (j : Nat) : nats (turn8 l j) = Crc.turn (nats l) j := by
  unfold nats turn8 Crc.turn
  have h2 : (UInt8.ofNat (2 ^ (j % 8))).toNat = 2 ^ (j % 8) := UInt8.toNat_ofNat_of_lt' (Crc.pow_lt8 (by omega))
  rw [List.map_set, UInt8.toNat_xor, h2]
  congr 2
  rw [List.getD_eq_getElem?_getD, List.getD_eq_getElem?_getD, List.getElem?_map]
  cases l[j / 8]? <;> rfl

theorem nats_turns8 (s mask k : Nat) (l : List UInt8) : nats (turns8 s mask k l) = Crc.turns s mask k (nats l) := by
  induction k with
  | zero => rfl
  | succ k ih =>
    simp only [turns8, Crc.turns]
    rw [show (nats l).length = l.length by simp [nats]]
    split
    · rw [nats_turn8, ih]
    · exact ih

theorem nats_lt (l : List UInt8) : ∀ b ∈ nats l, b < 256 := by
  intro b hb
  simp [nats] at hb
  obtain ⟨x, _, rfl⟩ := hb
  exact x.toNat_lt

theorem nats_inj {l m : List UInt8} (h : nats l = nats m) : l = m := by
  unfold nats at h
  exact (List.map_inj_right (fun x y hxy => UInt8.toNat_inj.1 hxy)).1 h

theorem ofNat_lt (n : Nat) (h : n < 256) : (UInt8.ofNat n).toNat = n := UInt8.toNat_ofNat_of_lt' (by simpa using h)

theorem nats_lows (n : Nat) : nats (lows n) = [n % 256, n / 256 % 256, n / 65536 % 256, n / 16777216 % 256] := by
  unfold nats lows
  simp only [List.map_cons, List.map_nil]
  rw [ofNat_lt _ (by omega), ofNat_lt _ (by omega), ofNat_lt _ (by omega), ofNat_lt _ (by omega)]

/-- whatever is sealed leaves one rest -/
theorem rest8 (l : List UInt8) : Crc.run Crc.ones (nats (l ++ lows (crc8 l))) = Crc.bits 32 Crc.ones := by
  rcases Crc.rest (nats l) with h | h
  · have hc := crc8_lt l
    have e : nats (l ++ lows (crc8 l)) = nats l ++ nats (lows (crc8 l)) := by simp [nats]
    rw [e, nats_lows]
    exact h
  · exact absurd (nats_lt l) h

/-- THE PLAIN LAW: turned within 32 bits, and sealed still: then it is as it was. -/
theorem shows_plain (P : List UInt8) (s mask : Nat) (q : List UInt8) (hq : q = turns8 s mask 32 (P ++ lows (crc8 P))) (h : q = q.take P.length ++ lows (crc8 (q.take P.length))) : q = P ++ lows (crc8 P) := by
  have h1 := rest8 P
  have h2 := rest8 (q.take P.length)
  rw [← h] at h2
  refine (nats_inj (Crc.burst (l := nats (P ++ lows (crc8 P))) (m := nats q) s ?_ (nats_lt _) (nats_lt _) ?_ (h1.trans h2.symm))).symm
  · rw [hq]; simp only [nats, List.length_map]; rw [length_turns8]
  · intro j hj
    rw [hq, nats_turns8] at hj
    exact Crc.bitAt_turns s mask 32 _ j hj

theorem turn8_byte (x : UInt8) (t : Nat) (ht : t < 8) : B8 (x ^^^ UInt8.ofNat (2 ^ t)) = .int .u8 (((x.toNat ^^^ 2 ^ t : Nat)) : Int) := by
  unfold B8
  rw [UInt8.toNat_xor, UInt8.toNat_ofNat_of_lt' (Crc.pow_lt8 ht)]

end Go.Proofs.YtacfkhnajdneeaaDoor
/- What else may turn: an append that says where its row lies; a frame that names the blocks that may turn. No program is in sight. -/
namespace Go.Proofs.YtacfkhnajdneeaaDoor
open Go.RowKit

/-- of what was there only the blocks of S may have turned -/
structure Only (w w' : World) (S : Nat → Prop) : Prop where
  os : w'.os = w.os
  tape : w'.tape = w.tape
  output : w'.output = w.output
  size : w.heap.size ≤ w'.heap.size
  block : ∀ k, k < w.heap.size → ¬ S k → w'.heap[k]? = w.heap[k]?

theorem Only.refl (w : World) (S : Nat → Prop) : Only w w S := ⟨rfl, rfl, rfl, Nat.le_refl _, fun _ _ _ => rfl⟩
theorem Only.trans {a b c : World} {S T : Nat → Prop} (h : Only a b S) (k : Only b c T) (hs : ∀ i, i < a.heap.size → T i → S i) : Only a c S :=
  ⟨k.os.trans h.os, k.tape.trans h.tape, k.output.trans h.output, Nat.le_trans h.size k.size, fun i hi hn =>
    (k.block i (Nat.lt_of_lt_of_le hi h.size) (fun ht => hn (hs i hi ht))).trans (h.block i hi hn)⟩
theorem Only.mono {a b : World} {S T : Nat → Prop} (h : Only a b S) (hs : ∀ i, i < a.heap.size → S i → T i) : Only a b T :=
  ⟨h.os, h.tape, h.output, h.size, fun i hi hn => h.block i hi (fun hs' => hn (hs i hi hs'))⟩
theorem Only.of_below {a b : World} (h : Below a.heap.size a b) (S : Nat → Prop) : Only a b S := ⟨h.os, h.tape, h.output, h.size, fun i hi _ => h.block i hi⟩
theorem Only.below {a b : World} {S : Nat → Prop} (h : Only a b S) (B : Nat) (hB : B ≤ a.heap.size) (hs : ∀ i, i < B → ¬ S i) : Below B a b :=
  ⟨h.os, h.tape, h.output, h.size, fun i hi => h.block i (Nat.lt_of_lt_of_le hi hB) (hs i hi)⟩
theorem Only.of_grown {a b : World} {row : Option Nat} (h : a.grownBy b row) : Only a b (fun k => row = some k) :=
  ⟨h.os, h.tape, h.output, h.size, fun i hi hn => h.block i hi (fun e => hn e.symm)⟩
theorem Only.setCell (w : World) (p : Addr) (u : Value) : Only w (w.setCell p u) (fun k => k = p.block) :=
  ⟨rfl, rfl, rfl, by simp [World.setCell], fun k _ hn => Below.heap_setCell _ _ _ _ hn⟩
theorem Only.drew {a b : World} {S : Nat → Prop} (h : Only a b S) : Only a b.drew S := ⟨h.os, h.tape, h.output, h.size, h.block⟩
theorem Only.drewN {a b : World} {S : Nat → Prop} (h : Only a b S) (n : Nat) : Only a (b.drewN n) S := ⟨h.os, h.tape, h.output, h.size, h.block⟩

/-- where a row of one's own lies behind an append: where it lay, or in a new block -/
def Stays (w : World) (v v' : Value) : Prop := v'.ownBlock = v.ownBlock ∨ ∀ k, v'.ownBlock = some k → w.heap.size ≤ k

theorem run_append_own' {P : Program} {w : World} (base : Nat) (t ty e : TypeId) (i : TypeInfo) (z : Value) (size bytes : Nat) (ht : P.underlying t = some (.slice e)) (hi : P.info? e = some i) (hz : i.zero = some z)
    (hsize : i.size = size) (hby : i.bytes = bytes) (hzs : z.cells.size = size) (hsz : 0 < size)
    (v : Value) (n : Nat) (xs : List Value) (hown : w.ownsRow base e size v n xs)
    (a : Addr) (m c : Nat) (news : List Value) (hl : news.length = m * size) (hnews : ∀ j u, news[j]? = some u → w.cell? (a.add j) = some u) (h1 : ∀ u ∈ news, u.oneCell' = true)
    (h63 : n + m ≤ maxLen) (hbytes : (n + m) * bytes ≤ 140737488355328) (hbase : base ≤ w.heap.size) :
    ∃ v' w', (Builtin.append_ #[t, t] ty #[v, .slice (some a) m c]).run P w = .ok v' w' ∧ w'.ownsRow base e size v' (n + m) (xs ++ news) ∧ w.grownBy w' v.ownBlock ∧ Stays w v v' := by
  rcases hown.2 with ⟨rfl, rfl⟩ | ⟨g, cap, cur, rfl, hb, hg, hn, hc, hs, hx⟩
  · have hxs : xs = [] := by simpa using hown.1
    subst hxs
    obtain ⟨v', w', hr, h2, h3, h4⟩ := run_append_own (P := P) w w.heap.size t ty e i z size bytes ht hi hz hsize hby hzs hsz (.slice none 0 0) 0 [] (World.ownsRow_nil _ _ _ _) a m c news hl hnews h1 h63 hbytes (Nat.le_refl _)
    exact ⟨v', w', hr, ownsRow_base h2 hbase, h3, .inr fun k hk => (h2.lt k hk).1⟩
  · by_cases hroom : n + m ≤ cap
    · obtain ⟨w', hr, h2, h3⟩ := run_append_fits (P := P) (w := w) base t ty e i size ht hi hsize g n cap xs hown a m c news hl hnews h1 hroom
      exact ⟨_, w', hr, h2, h3, .inl rfl⟩
    · have holds : ∀ j u, xs[j]? = some u → w.cell? ((⟨g, 0, none⟩ : Addr).add j) = some u := hown.cells rfl
      obtain ⟨v', w', hr, h2, h3⟩ := run_append_arg_grows (P := P) (w := w) t ty e i z size bytes ht hi hz hsize hby hzs hsz ⟨g, 0, none⟩ n cap xs hown.1 holds a m c news hl hnews (by omega) h63 hbytes
      exact ⟨v', w', hr, ownsRow_base h2 hbase, ⟨h3.os, h3.tape, h3.output, h3.size, fun k hk _ => h3.block k hk (by simp)⟩, .inr fun k hk => (h2.lt k hk).1⟩

/-- an append of bytes to bytes of one's own, and where they lie -/
theorem wpList_app8' {P : Program} {w : World} {ops : Array Oper} {rest : List Oper} {o : Oper} {a : Act} {Q : Exit → Act → World → Prop} (hgd : o.guard = none) (s x : Operand)
    (t e : Nat) (T : RowTy P t e 1 1) (ho : o.op = .call { callee := .builtin .append, args := #[s, x], argTypes := #[t, t] })
    (base : Nat) (v : Value) (l : List UInt8) (hs : a.eval s = v) (hown : Own8 e base w v l)
    (u : Value) (m : List UInt8) (hx : a.eval x = u) (hm : Bytes w u m) (hbytes : l.length + m.length ≤ 140737488355328) (hbase : base ≤ w.heap.size)
    (h : ∀ v' w', Own8 e base w' v' (l ++ m) → w.grownBy w' v.ownBlock → Stays w v v' → wpList P ops Q rest (a.put o.dst v') w') : wpList P ops Q (o :: rest) a w := by
  obtain ⟨ad, c, rfl, hm0, hmc, hn, hl⟩ := hm.lies
  obtain ⟨i, z, hi, hz, hsz, hby, hzs⟩ := T.ex
  cases ad with
  | none =>
    have hc0 := hn rfl
    subst hc0
    have hm0' : m = [] := List.length_eq_zero_iff.1 (by omega)
    subst hm0'
    refine wpList_append_own_none hgd s x t ho base e i 1 T.ht hi v l.length (l.map B8) hs hown hx ?_
    exact h v w (by simpa using hown) ⟨rfl, rfl, rfl, Nat.le_refl _, fun _ _ _ => rfl⟩ (.inl rfl)
  | some ad =>
    have hnews : ∀ j u, (m.map B8)[j]? = some u → w.cell? (ad.add j) = some u := by
      intro j u hu
      rcases hl with h0 | ⟨g, o', ha, hr⟩
      · rw [h0] at hu; simp at hu
      · cases ha
        rw [Addr.add_mid]
        exact hr j u hu
    obtain ⟨v', w', hr, h2, h3, h4⟩ := run_append_own' (P := P) (w := w) base t o.type e i z 1 1 T.ht hi hz hsz hby hzs T.pos v l.length (l.map B8) hown ad m.length c (m.map B8) (by simp) hnews (B8_one m) (by unfold maxLen; omega) (by omega) hbase
    refine wpList_yields hgd v' w' ?_ (h v' w' (Own8.app h2) h3 h4)
    unfold execOp
    simp only [ho, resolve, invoke, builtin, Sem.run_bind, Sem.run_pure, Result.andThen_ok, List.map_toArray, List.map_cons, List.map_nil, hs, hx, hr]

theorem Own8.isSlice {e : TypeId} {base : Nat} {w : World} {v : Value} {l : List UInt8} (h : Own8 e base w v l) : ∃ a n c, v = .slice a n c := by
  obtain ⟨a, c, rfl, _⟩ := h.bytes
  exact ⟨_, _, _, rfl⟩

/-- '[]byte(s)' -/
theorem run_text {P : Program} (w : World) (src dst e : TypeId) (s : ByteArray) (hs : P.underlying src = some .string) (hd : P.underlying dst = some (.slice e)) (he : P.underlying e = some (.int .u8)) (hsz : s.size ≤ maxLen) :
    ∃ v' w', (convert src dst (.string s)).run P w = .ok v' w' ∧ Bytes w' v' s.data.toList ∧ Below w.heap.size w w' := by
  refine ⟨_, _, run_bytes_of_string w src dst e s hs hd he, ?_, (bdr (bre w)).alloc (Nat.le_refl _) _⟩
  have hlen : s.data.toList.length = s.size := Array.length_toList
  have hcap : s.size ≤ grownCap w s.size 0 e := grownCap_ge w s.size 0 e
  refine ⟨_, _, by rw [hlen], by rw [hlen]; exact hsz, by rw [hlen]; exact hcap, fun h => (by cases h), .inr ⟨_, _, rfl, fun j x hx => ⟨B8 x, ?_, rfl⟩⟩⟩
  have hj : j < s.data.size := by have := (List.getElem?_eq_some_iff.1 hx).1; simpa using this
  rw [Nat.zero_add, cell_of_row _ w.heap.size j _ e _ (heap_alloc_new w.drew _)]
  unfold bytesRow
  rw [Array.getElem?_append_left (by simpa using hj), Array.getElem?_map]
  rw [Array.getElem?_toList] at hx
  rw [hx]
  rfl

theorem wpList_text {P : Program} {w : World} {ops : Array Oper} {rest : List Oper} {o : Oper} {a : Act} {Q : Exit → Act → World → Prop} (hgd : o.guard = none) (src dst e : TypeId) (x : Operand) (ho : o.op = .convert src dst x)
    (s : ByteArray) (hx : a.eval x = .string s) (hs : P.underlying src = some .string) (hd : P.underlying dst = some (.slice e)) (he : P.underlying e = some (.int .u8)) (hsz : s.size ≤ maxLen)
    (h : ∀ v' w', Bytes w' v' s.data.toList → Below w.heap.size w w' → wpList P ops Q rest (a.put o.dst v') w') : wpList P ops Q (o :: rest) a w := by
  obtain ⟨v', w', hr, h1, h2⟩ := run_text (P := P) w src dst e s hs hd he hsz
  refine wpList_yields hgd v' w' ?_ (h v' w' h1 h2)
  unfold execOp
  simp only [ho, hx, Sem.run_bind, hr, Result.andThen_ok]
  rfl

end Go.Proofs.YtacfkhnajdneeaaDoor
/- Rows of long elements of one's own: stored into, read from; objects by their footprints. No program is in sight. -/
namespace Go.Proofs.YtacfkhnajdneeaaDoor
open Go.RowKit

theorem cell_row {w : World} {g i T : Nat} {cs : Array Value} {fr : Nat × Nat} (h : w.heap[g]? = some (.cells cs T fr)) : w.cell? ⟨g, i, none⟩ = cs[i]? := by
  simp [World.cell?, h]

theorem Bytes.only {w w' : World} {S : Nat → Prop} {u : Value} {l : List UInt8} (h : Bytes w u l) (ho : Only w w' S) (hs : ∀ g o n c, l ≠ [] → u = .slice (some ⟨g, o, none⟩) n c → ¬ S g) : Bytes w' u l := by
  obtain ⟨a, c, rfl, h1, h2, h3, h4⟩ := h
  refine ⟨a, c, rfl, h1, h2, h3, ?_⟩
  by_cases hl : l = []
  · exact .inl hl
  · rcases h4 with h4 | ⟨g, o, rfl, h4⟩
    · exact .inl h4
    · refine .inr ⟨g, o, rfl, fun j x hx => ?_⟩
      obtain ⟨y, hy, hr⟩ := h4 j x hx
      exact ⟨y, (World.cell?_of_block (a := ⟨g, o + j, none⟩) (ho.block g (block_lt_of_cell hy) (hs _ _ _ _ hl rfl))).trans hy, hr⟩

theorem flat_get' {α : Type} (cs : α → List Value) (n : Nat) (l : List α) (hn : ∀ x ∈ l, (cs x).length = n) : ∀ (j i : Nat) (x : α), l[j]? = some x → i < n → (l.flatMap cs)[j * n + i]? = (cs x)[i]? := by
  induction l with
  | nil => intro j i x h _; simp at h
  | cons y l ih =>
    intro j i x h hi
    have hy := hn y (by simp)
    rw [List.flatMap_cons]
    cases j with
    | zero =>
      simp at h
      subst h
      rw [List.getElem?_append_left (by rw [hy]; omega)]
      simp
    | succ j =>
      rw [List.getElem?_append_right (by rw [hy, Nat.succ_mul]; omega), hy, show (j + 1) * n + i - n = j * n + i by rw [Nat.succ_mul]; omega]
      exact ih (fun x hx => hn x (by simp [hx])) j i x (by simpa using h) hi

theorem flat_length' {α : Type} (cs : α → List Value) (n : Nat) (l : List α) (hn : ∀ x ∈ l, (cs x).length = n) : (l.flatMap cs).length = l.length * n := by
  induction l with
  | nil => simp
  | cons y l ih => rw [List.flatMap_cons, List.length_append, hn y (by simp), ih (fun x hx => hn x (by simp [hx])), List.length_cons, Nat.succ_mul]; omega

/-- values set one by one -/
def setAll (xs : List Value) : Nat → List Value → List Value
  | _, [] => xs
  | o, v :: r => setAll (xs.set o v) (o + 1) r

theorem setAll_length (cs : List Value) : ∀ (xs : List Value) (o : Nat), (setAll xs o cs).length = xs.length := by
  induction cs with
  | nil => intro xs o; rfl
  | cons v r ih => intro xs o; rw [setAll, ih, List.length_set]

theorem setAll_get (cs : List Value) : ∀ (xs : List Value) (o k : Nat), o + cs.length ≤ xs.length → (setAll xs o cs)[k]? = if o ≤ k ∧ k < o + cs.length then cs[k - o]? else xs[k]? := by
  induction cs with
  | nil => intro xs o k _; rw [setAll, if_neg (by simp only [List.length_nil]; omega)]
  | cons v r ih =>
    intro xs o k h
    rw [List.length_cons] at h
    rw [setAll, ih _ _ _ (by rw [List.length_set]; omega), List.length_cons]
    by_cases h1 : o + 1 ≤ k ∧ k < o + 1 + r.length
    · rw [if_pos h1, if_pos (by omega), show k - o = (k - (o + 1)) + 1 by omega, List.getElem?_cons_succ]
    · rw [if_neg h1]
      by_cases h2 : k = o
      · subst h2
        rw [if_pos (by omega), Nat.sub_self, List.getElem?_cons_zero, List.getElem?_set_self (by omega)]
      · rw [if_neg (by omega), List.getElem?_set_ne (by omega)]

theorem setAll_flat {α : Type} (cs : α → List Value) (n : Nat) (l : List α) (hn : ∀ x ∈ l, (cs x).length = n) (i : Nat) (y : α) (hi : i < l.length) (hy : (cs y).length = n) :
    setAll (l.flatMap cs) (i * n) (cs y) = (l.set i y).flatMap cs := by
  have hn2 : ∀ x ∈ l.set i y, (cs x).length = n := fun x hx => by
    rcases List.mem_or_eq_of_mem_set hx with h | h
    · exact hn x h
    · rw [h]; exact hy
  have hlen := flat_length' cs n l hn
  have hlen2 := flat_length' cs n (l.set i y) hn2
  rw [List.length_set] at hlen2
  have hin : i * n + n ≤ l.length * n := by rw [← Nat.succ_mul]; exact Nat.mul_le_mul_right n hi
  apply List.ext_getElem?
  intro k
  rw [setAll_get _ _ _ _ (by rw [hlen, hy]; exact hin), hy]
  by_cases hk : k < l.length * n
  · have hn0 : 0 < n := by
      rcases Nat.eq_zero_or_pos n with h | h
      · subst h; simp at hk
      · exact h
    have hdm := Nat.div_add_mod k n
    have hmod := Nat.mod_lt k hn0
    have hdiv : k / n < l.length := (Nat.div_lt_iff_lt_mul hn0).2 hk
    have hkk : k = k / n * n + k % n := by rw [Nat.mul_comm]; omega
    generalize k / n = j at *
    generalize k % n = m at *
    subst hkk
    obtain ⟨x, hx⟩ : ∃ x, l[j]? = some x := ⟨_, List.getElem?_eq_getElem hdiv⟩
    by_cases hji : j = i
    · subst hji
      rw [if_pos (by omega), flat_get' cs n _ hn2 j m y (by rw [List.getElem?_set_self hi]) hmod, Nat.add_sub_cancel_left]
    · rw [flat_get' cs n _ hn2 j m x (by rw [List.getElem?_set_ne (fun h => hji h.symm)]; exact hx) hmod, flat_get' cs n _ hn j m x hx hmod, if_neg]
      rintro ⟨h1, h2⟩
      rcases Nat.lt_or_gt_of_ne hji with h | h
      · have : (j + 1) * n ≤ i * n := Nat.mul_le_mul_right n h
        rw [Nat.succ_mul] at this; omega
      · have : (i + 1) * n ≤ j * n := Nat.mul_le_mul_right n h
        rw [Nat.succ_mul] at this; omega
  · rw [if_neg (by omega), List.getElem?_eq_none (by omega), List.getElem?_eq_none (by omega)]

theorem own_setCells {base e size n g c : Nat} (cs : List Value) : ∀ {w : World} {xs : List Value} (o : Nat), w.ownsRow base e size (.slice (some ⟨g, 0, none⟩) n c) n xs →
    (w.setCells g o cs).ownsRow base e size (.slice (some ⟨g, 0, none⟩) n c) n (setAll xs o cs) := by
  induction cs with
  | nil => intro w xs o h; exact h
  | cons v r ih => intro w xs o h; exact ih (o + 1) (World.ownsRow.stored h o v).1

theorem only_setCells (g : Nat) (cs : List Value) : ∀ (w : World) (o : Nat), Only w (w.setCells g o cs) (fun k => k = g) := by
  induction cs with
  | nil => intro w o; exact Only.refl _ _
  | cons v r ih => intro w o; exact (Only.setCell w ⟨g, o, none⟩ v).trans (ih _ _) fun i _ h => h

/-- the element at i of a row of one's own -/
theorem own_range {α : Type} {cs : α → List Value} {n : Nat} {w : World} {base e c g : Nat} {l : List α} (hn : ∀ x ∈ l, (cs x).length = n)
    (h : w.ownsRow base e n (.slice (some ⟨g, 0, none⟩) l.length c) l.length (l.flatMap cs)) (i : Nat) (x : α) (hx : l[i]? = some x) : w.rangeAt g (i * n) (cs x) := by
  intro j v hv
  have hj : j < n := by have := (List.getElem?_eq_some_iff.1 hv).1; rw [hn x (List.mem_of_getElem? hx)] at this; exact this
  have hi : i < l.length := (List.getElem?_eq_some_iff.1 hx).1
  have hin : i * n + n ≤ l.length * n := by rw [← Nat.succ_mul]; exact Nat.mul_le_mul_right n hi
  rw [World.ownsRow.cellAt h (i * n + j) (by omega), flat_get' cs n l hn i j x hx hj]
  exact hv

theorem own_there {w : World} {base e size c g n : Nat} {xs : List Value} (h : w.ownsRow base e size (.slice (some ⟨g, 0, none⟩) n c) n xs) (o m : Nat) (hm : o + m ≤ n * size) : w.there g o m := by
  intro j hj
  have hl := h.1
  refine ⟨?_, World.ownsRow.frozenAt h _⟩
  rw [World.ownsRow.cellAt h (o + j) (by omega), List.getElem?_eq_getElem (by omega)]
  rfl

theorem own_only {e : TypeId} {base size n : Nat} {w w' : World} {S : Nat → Prop} {v : Value} {xs : List Value} (h : w.ownsRow base e size v n xs) (ho : Only w w' S) (hs : ∀ k, v.ownBlock = some k → ¬ S k) : w'.ownsRow base e size v n xs := by
  refine ⟨h.1, ?_⟩
  rcases h.2 with h2 | ⟨g, cap, cur, h1, hb, hg, hr⟩
  · exact .inl h2
  · exact .inr ⟨g, cap, cur, h1, hb, (ho.block g (Array.getElem?_eq_some_iff.1 hg).1 (hs g (by rw [h1]; rfl))).trans hg, hr⟩

theorem own_block {e : TypeId} {base size n : Nat} {w : World} {v : Value} {xs : List Value} (h : w.ownsRow base e size v n xs) {g : Nat} (hg : v.ownBlock = some g) : ∃ cur, w.heap[g]? = some (.cells cur e (0, 0)) := by
  rcases h.2 with ⟨rfl, _⟩ | ⟨g', c, cur, rfl, _, hg', _⟩
  · cases hg
  · simp [Value.ownBlock] at hg
    subst hg
    exact ⟨cur, hg'⟩

theorem own_ne {e base size n T : Nat} {w : World} {v : Value} {xs : List Value} (h : w.ownsRow base e size v n xs) {g : Nat} {cs : Array Value} {fr : Nat × Nat} (hg : w.heap[g]? = some (.cells cs T fr)) (hT : T ≠ e) : v.ownBlock ≠ some g := by
  intro hb
  obtain ⟨cur, hc⟩ := own_block h hb
  rw [hg] at hc
  cases hc
  exact hT rfl

/-- what an object's doing may turn, and where it lies then -/
structure Moved (w w' : World) (F F' : Nat → Prop) : Prop where
  only : Only w w' F
  fresh : ∀ k, F' k → F k ∨ w.heap.size ≤ k

theorem Moved.refl (w : World) (F : Nat → Prop) : Moved w w F F := ⟨Only.refl _ _, fun _ h => .inl h⟩
theorem Moved.trans {a b c : World} {F G H : Nat → Prop} (h : Moved a b F G) (k : Moved b c G H) : Moved a c F H := by
  refine ⟨h.only.trans k.only (fun i hi hg => ?_), fun i hi => ?_⟩
  · rcases h.fresh i hg with h | h
    · exact h
    · omega
  · rcases k.fresh i hi with h1 | h1
    · exact h.fresh i h1
    · exact .inr (Nat.le_trans h.only.size h1)
theorem Moved.of_below {w w' : World} (F : Nat → Prop) (h : Below w.heap.size w w') : Moved w w' F F := ⟨Only.of_below h F, fun _ h => .inl h⟩
theorem Moved.below {w w' : World} {F F' : Nat → Prop} {B : Nat} (h : Moved w w' F F') (hB : B ≤ w.heap.size) (hF : ∀ k, F k → B ≤ k) : Below B w w' := h.only.below B hB fun i hi hf => by have := hF i hf; omega
theorem Moved.ge {w w' : World} {F F' : Nat → Prop} {B : Nat} (h : Moved w w' F F') (hB : B ≤ w.heap.size) (hF : ∀ k, F k → B ≤ k) : ∀ k, F' k → B ≤ k := fun k hk => by
  rcases h.fresh k hk with h | h
  · exact hF k h
  · omega
end Go.Proofs.YtacfkhnajdneeaaDoor
/- A region that draws its order, whose head only reads: a long load in the head. No program is in sight. -/
namespace Go.Proofs.YtacfkhnajdneeaaDoor
open Go.RowKit

theorem wpStill_load_mid {P : Program} {ops : Array Oper} {rest : List Oper} {op : Oper} {a : Act} {w : World} {Q : Act → Prop} (hgd : op.guard = none) (ty : TypeId) (x : Operand) (ho : op.op = .load ty x)
    (b o : Nat) (hx : a.eval x = .pointer (some ⟨b, o, none⟩)) (cs : List Value) (d : TypeDesc) (hc : w.rangeAt b o cs)
    (hu : P.underlying ty = some d) (hd : d.isRow = true) (hi : (P.info? ty).map (·.size) = some cs.length)
    (h : wpStill P ops w Q rest (a.put op.dst (.agg cs.toArray))) : wpStill P ops w Q (op :: rest) a := by
  refine wpStill_step fun K hK => ?_
  have hw : Region.wanted op (yielded ops a.tmps) = true := by simp [Region.wanted, hgd]
  rw [if_pos hw]
  unfold Oper.still execOp
  simp only [ho, hx, Instr.loadAt, Instr.sureAddr, Sem.run_bind, Sem.run_pure, Result.andThen_ok, run_loadVar_mid w b o ty cs d hc hu hd hi]
  exact ⟨rfl, hK _ h⟩

/-- '[]T{x}', x a long row -/
theorem wpList_buildSlice_row {P : Program} {w : World} {ops : Array Oper} {rest : List Oper} {o : Oper} {a : Act} {Q : Exit → Act → World → Prop} (hgd : o.guard = none) (t e size bytes : Nat) (T : RowTy P t e size bytes) (x : Operand)
    (ho : o.op = .buildSlice t 1 #[(0, x)]) (cs : Array Value) (hx : a.eval x = .agg cs) (hs : cs.size = size) (hsmall : size ≤ 16777216)
    (h : wpList P ops Q rest (a.put o.dst (.slice (some ⟨w.heap.size, 0, none⟩) 1 1)) (w.alloc (.cells cs e))) : wpList P ops Q (o :: rest) a w := by
  obtain ⟨i, z, hi, hz, hsz, hby, hzs⟩ := T.ex
  have hpos := T.pos
  subst hsz
  refine wpList_buildSlice hgd t e 1 #[(0, x)] ho cs i z T.ht hi hz (by omega) (by omega) ?_ h
  have := Great.fill_whole (s := i.size) hpos [.agg cs] ((Array.range (1 * i.size)).map (z.cells[· % z.cells.size]!)) (by simp only [List.mem_singleton, forall_eq]; exact hs) (by simp)
  simp only [List.zipIdx_cons, List.zipIdx_nil, List.map_cons, List.map_nil, List.flatMap_cons, List.flatMap_nil, List.append_nil, show (Value.agg cs).cells = cs from rfl] at this
  simpa [hx] using this

/-- '[]T{x}', x a long row -/
theorem wp_buildSlice_row {P : Program} {w : World} {o : Oper} {a : Act} {K : Act → World → Prop} {Q : Exit → Act → World → Prop} (t e size bytes : Nat) (T : RowTy P t e size bytes) (x : Operand)
    (ho : o.op = .buildSlice t 1 #[(0, x)]) (cs : Array Value) (hx : a.eval x = .agg cs) (hs : cs.size = size) (hsmall : size ≤ 16777216)
    (h : K (a.put o.dst (.slice (some ⟨w.heap.size, 0, none⟩) 1 1)) (w.alloc (.cells cs e))) : o.wp P a w K Q := by
  obtain ⟨i, z, hi, hz, hsz, hby, hzs⟩ := T.ex
  have hpos := T.pos
  subst hsz
  refine wp_buildSlice t e 1 #[(0, x)] ho cs i z T.ht hi hz (by omega) (by omega) ?_ h
  have := Great.fill_whole (s := i.size) hpos [.agg cs] ((Array.range (1 * i.size)).map (z.cells[· % z.cells.size]!)) (by simp only [List.mem_singleton, forall_eq]; exact hs) (by simp)
  simp only [List.zipIdx_cons, List.zipIdx_nil, List.map_cons, List.map_nil, List.flatMap_cons, List.flatMap_nil, List.append_nil, show (Value.agg cs).cells = cs from rfl] at this
  simpa [hx] using this

/-- an append to a row of one's own, and where it lies then -/
theorem wpList_app' {P : Program} {w : World} {ops : Array Oper} {rest : List Oper} {o : Oper} {a : Act} {Q : Exit → Act → World → Prop} (hgd : o.guard = none) (s x : Operand)
    (t e size bytes : Nat) (T : RowTy P t e size bytes) (ho : o.op = .call { callee := .builtin .append, args := #[s, x], argTypes := #[t, t] })
    (base : Nat) (v : Value) (n : Nat) (xs : List Value) (hs : a.eval s = v) (hown : w.ownsRow base e size v n xs)
    (ad : Addr) (m c : Nat) (news : List Value) (hx : a.eval x = .slice (some ad) m c) (hl : news.length = m * size) (hnews : ∀ j u, news[j]? = some u → w.cell? (ad.add j) = some u) (h1 : ∀ u ∈ news, u.oneCell' = true)
    (h63 : n + m ≤ maxLen) (hbytes : (n + m) * bytes ≤ 140737488355328) (hbase : base ≤ w.heap.size)
    (h : ∀ v' w', w'.ownsRow base e size v' (n + m) (xs ++ news) → w.grownBy w' v.ownBlock → Stays w v v' → wpList P ops Q rest (a.put o.dst v') w') : wpList P ops Q (o :: rest) a w := by
  obtain ⟨i, z, hi, hz, hsz, hby, hzs⟩ := T.ex
  obtain ⟨v', w', hr, h2, h3, h4⟩ := run_append_own' (P := P) (w := w) base t o.type e i z size bytes T.ht hi hz hsz hby hzs T.pos v n xs hown ad m c news hl hnews h1 h63 hbytes hbase
  refine wpList_yields hgd v' w' ?_ (h v' w' h2 h3 h4)
  unfold execOp
  simp only [ho, resolve, invoke, builtin, Sem.run_bind, Sem.run_pure, Result.andThen_ok, List.map_toArray, List.map_cons, List.map_nil, hs, hx, hr]

theorem wpList_built {P : Program} {w : World} {ops : Array Oper} {rest : List Oper} {o : Oper} {a : Act} {Q : Exit → Act → World → Prop} (hgd : o.guard = none) (t : TypeId) (parts : Array (Nat × Operand)) (ho : o.op = .build t parts)
    (vals : List (Nat × Value)) (hv : (parts.map fun (i, x) => (i, a.eval x)).toList = vals) (cells : Array Value) (hb : P.built t vals = some cells)
    (h : wpList P ops Q rest (a.put o.dst (.agg cells)) w) : wpList P ops Q (o :: rest) a w :=
  wpList_build hgd t parts ho (by rw [hv, hb]; rfl) (by rw [hv, hb]; exact h)
end Go.Proofs.YtacfkhnajdneeaaDoor
/- A region that draws its order, its last step apart: what is read ahead of it may be taken first, whatever it stores. No program is in sight. -/
namespace Go.Proofs.YtacfkhnajdneeaaDoor
open Go.RowKit

section
variable {P : Program} {ops : Array Oper} {Q : Exit → Act → World → Prop} {md : Region.Mode} {S : World → Prop}

/-- whatever order is picked from here on, and S holds as long as number z has not come up -/
def AnyZ (P : Program) (md : Region.Mode) (ops : Array Oper) (Q : Exit → Act → World → Prop) (S : World → Prop) (z : Nat) : Nat → Array Bool → Act → World → Prop
  | 0, listed, a, w => Region.ready md ops listed = [] ∧ Q .normal a w
  | fuel + 1, listed, a, w =>
    (Region.ready md ops listed = [] → Q .normal a w) ∧
    ∀ i ∈ Region.ready md ops listed, wpOp P ops Q i (fun a' w' => ((listed.setIfInBounds i true).getD z true = false → S w') ∧ AnyZ P md ops Q S z fuel (listed.setIfInBounds i true) a' w') a w

theorem any_of_anyZ {z : Nat} : ∀ (fuel : Nat) (listed : Array Bool) (a : Act) (w : World), AnyZ P md ops Q S z fuel listed a w → wpAny P md ops Q fuel listed a w
  | 0, _, _, _, h => h
  | fuel + 1, _, _, _, h => ⟨h.1, fun i hi => wpOp_mono (fun a' w' h' => any_of_anyZ fuel _ a' w' h'.2) (h.2 i hi)⟩

/-- whatever has come up, what it waits for has come up -/
def Closed (md : Region.Mode) (ops : Array Oper) (listed : Array Bool) : Prop := ∀ j i, Region.waitsFor md ops j i = true → listed.getD j false = true → listed.getD i false = true

/-- number z waits for number i, perhaps through others -/
def Blocks (md : Region.Mode) (ops : Array Oper) : Nat → Nat → Nat → Bool
  | 0, z, i => Region.waitsFor md ops z i
  | n + 1, z, i => Region.waitsFor md ops z i || (List.range ops.size).any fun k => Region.waitsFor md ops z k && Blocks md ops n k i

theorem blocks_listed {listed : Array Bool} (hc : Closed md ops listed) : ∀ (n z i : Nat), Blocks md ops n z i = true → listed.getD z false = true → listed.getD i false = true
  | 0, z, i, h, hz => hc z i h hz
  | n + 1, z, i, h, hz => by
    simp only [Blocks, Bool.or_eq_true, List.any_eq_true, Bool.and_eq_true] at h
    rcases h with h | ⟨k, _, h1, h2⟩
    · exact hc z i h hz
    · exact blocks_listed hc n k i h2 (hc z k h1 hz)

theorem closed_start (n : Nat) : Closed md ops (Array.replicate n false) := fun j i _ h => by rw [getD_replicate_false] at h; cases h

theorem ready_listed {listed : Array Bool} {j k : Nat} (hj : j ∈ Region.ready md ops listed) (hw : Region.waitsFor md ops j k = true) : listed.getD k false = true := by
  obtain ⟨_, oj, hoj, hall⟩ := mem_ready.1 hj
  obtain ⟨oz, hoz, e, he, hb, hon⟩ := Region.waitsFor_spec hw
  rw [hoj] at hoz
  cases hoz
  have := hall e he hb
  rw [hon] at this
  exact this

theorem ready_un {listed : Array Bool} {i : Nat} (hi : i ∈ Region.ready md ops listed) : listed.getD i false = false := getD_both (mem_ready.1 hi).1

theorem Closed.set {listed : Array Bool} {j : Nat} (hc : Closed md ops listed) (hj : j ∈ Region.ready md ops listed) : Closed md ops (listed.setIfInBounds j true) := by
  intro a b hab ha
  have keep : ∀ c, listed.getD c false = true → (listed.setIfInBounds j true).getD c false = true := fun c h => by
    by_cases hjc : j = c
    · subst hjc; rw [ready_un hj] at h; cases h
    · rw [getD_set_ne false hjc]; exact h
  by_cases hja : j = a
  · subst hja; exact keep b (ready_listed hj hab)
  · rw [getD_set_ne false hja] at ha
    exact keep b (hc a b hab ha)

theorem blocks_not_ready {listed : Array Bool} (hc : Closed md ops listed) {n z i : Nat} (hb : Blocks md ops n z i = true) (hi : listed.getD i false = false) : z ∉ Region.ready md ops listed := by
  intro hz
  have key : listed.getD i false = true := by
    cases n with
    | zero => exact ready_listed hz hb
    | succ n =>
      simp only [Blocks, Bool.or_eq_true, List.any_eq_true, Bool.and_eq_true] at hb
      rcases hb with h | ⟨k, _, h1, h2⟩
      · exact ready_listed hz h
      · exact blocks_listed hc n k i h2 (ready_listed hz h1)
  rw [hi] at key
  cases key

theorem anyZ_first {n i z : Nat} (hiz : i ≠ z) {oi : Oper} {v : Value} {T : World → Prop} (hT : ∀ w, S w → T w) (hi : ops[i]? = some oi) (hsel : ∀ (j : Nat) (o : Oper) cs b, ops[j]? = some o → o.op ≠ .select cs b)
    (hQ : ∀ c a w, Q (.panic c) (a.put oi.dst v) w → Q (.panic c) a w) :
    ∀ (fuel : Nat) (listed : Array Bool) (a : Act) (w : World), Closed md ops listed → ((∀ w, T w) ∨ (Blocks md ops n z i = true ∧ listed.getD z true = false)) →
      (∀ j oj, ops[j]? = some oj → j ≠ i → listed.getD j true = false → (∀ e ∈ oj.after, Region.binds md e = true → e.on ≠ i) → oi.apart ops oj = true) →
      i ∈ Region.ready md ops listed → YieldsIf P ops T oi v a → T w → ((listed.setIfInBounds i true).getD z true = false → S w) →
      AnyZ P md ops Q S z fuel (listed.setIfInBounds i true) (a.put oi.dst v) w → AnyZ P md ops Q S z (fuel + 1) listed a w := by
  intro fuel
  induction fuel with
  | zero =>
    intro listed a w _ hz _ hr hy hTw hS H
    refine ⟨fun h => (by rw [h] at hr; cases hr), fun j hj => ?_⟩
    by_cases hji : j = i
    · subst hji; exact hy.wpOp hi hTw ⟨hS, H⟩
    · have := ready_mono hj hji
      rw [H.1] at this
      cases this
  | succ fuel ih =>
    intro listed a w hcl hz hfree hr hy hTw hS H
    refine ⟨fun h => (by rw [h] at hr; cases hr), fun j hj => ?_⟩
    by_cases hji : j = i
    · subst hji; exact hy.wpOp hi hTw ⟨hS, H⟩
    · have h1 := H.2 j (ready_mono hj hji)
      obtain ⟨hjun, oj, hoj, hall⟩ := mem_ready.1 hj
      have hnot : ∀ e ∈ oj.after, Region.binds md e = true → e.on ≠ i := fun e he hb heq => by
        have h1 := hall e he hb
        have h0 := (mem_ready.1 hr).1
        rw [heq] at h1
        rcases Nat.lt_or_ge i listed.size with h' | h'
        · simp [h'] at h0 h1; rw [h0] at h1; cases h1
        · simp [Array.getElem?_eq_none h'] at h1
      have h2 := wpOp_putIf hoj (hfree j oj hoj hji hjun hnot) (fun cs b => hsel i oi cs b hi) (fun cs b => hsel j oj cs b hoj) hQ hy h1
      have hfree' : ∀ k ok, ops[k]? = some ok → k ≠ i → (listed.setIfInBounds j true).getD k true = false →
          (∀ e ∈ ok.after, Region.binds md e = true → e.on ≠ i) → oi.apart ops ok = true := fun k ok hk hki hun hno => by
        refine hfree k ok hk hki ?_ hno
        by_cases hjk : j = k
        · subst hjk; exact hjun
        · rw [getD_set_ne true hjk] at hun; exact hun
      have hz' : (∀ w, T w) ∨ (Blocks md ops n z i = true ∧ (listed.setIfInBounds j true).getD z true = false) := by
        rcases hz with h | ⟨hw, hzl⟩
        · exact .inl h
        · refine .inr ⟨hw, ?_⟩
          have hjz : j ≠ z := by
            rintro rfl
            exact blocks_not_ready hcl hw (ready_un hr) hj
          rw [getD_set_ne true hjz]; exact hzl
      have hzi : (listed.setIfInBounds i true).setIfInBounds j true = (listed.setIfInBounds j true).setIfInBounds i true := (Array.setIfInBounds_comm _ _ (Ne.symm hji)) 
      refine wpOp_mono (fun a' w' h3 => ?_) h2
      obtain ⟨h3a, h3b, h3c⟩ := h3
      have hge : (listed.setIfInBounds j true).getD z true = ((listed.setIfInBounds i true).setIfInBounds j true).getD z true := by
        rw [hzi]; exact (getD_set_ne true hiz).symm
      refine ⟨fun hzl => ?_, ih (listed.setIfInBounds j true) a' w' (hcl.set hj) hz' hfree' (ready_mono hr (Ne.symm hji)) h3a ?_ ?_ ?_⟩
      · exact h3b (hge ▸ hzl)
      · rcases hz' with h | ⟨hw, hzl⟩
        · exact h w'
        · exact hT w' (h3b (hge ▸ hzl))
      · intro h; rw [← hzi] at h; exact h3b h
      · rw [← hzi]; exact h3c

theorem anyZ_take {i z : Nat} {oi : Oper} {v : Value} {fuel : Nat} {listed : Array Bool} {a : Act} {w : World} (hi : ops[i]? = some oi) (hiz : (i != z) = true)
    (hs : Region.noSelect ops = true) (hf : Region.free md ops listed i = true) (hr : (Region.ready md ops listed).contains i = true) (hcl : Closed md ops listed) (n : Nat) (hw : Blocks md ops n z i = true) (hzl : listed.getD z true = false)
    (hQ : ∀ c a w, Q (.panic c) (a.put oi.dst v) w → Q (.panic c) a w) (hy : YieldsIf P ops S oi v a) (hS : S w)
    (h : Closed md ops (listed.setIfInBounds i true) → AnyZ P md ops Q S z fuel (listed.setIfInBounds i true) (a.put oi.dst v) w) : AnyZ P md ops Q S z (fuel + 1) listed a w :=
  anyZ_first (by simpa using hiz) (fun _ h => h) hi (Region.noSelect_spec hs) hQ fuel listed a w hcl (.inr ⟨hw, hzl⟩) (Region.free_spec hi hf) (by simpa using hr) hy hS (fun _ => hS) (h (hcl.set (by simpa using hr)))

/-- what yields in whatever world -/
theorem anyZ_pure {i z : Nat} {oi : Oper} {v : Value} {fuel : Nat} {listed : Array Bool} {a : Act} {w : World} (hi : ops[i]? = some oi) (hiz : (i != z) = true)
    (hs : Region.noSelect ops = true) (hf : Region.free md ops listed i = true) (hr : (Region.ready md ops listed).contains i = true) (hcl : Closed md ops listed)
    (hQ : ∀ c a w, Q (.panic c) (a.put oi.dst v) w → Q (.panic c) a w) (hy : YieldsIf P ops (fun _ => True) oi v a) (hS : (listed.setIfInBounds i true).getD z true = false → S w)
    (h : Closed md ops (listed.setIfInBounds i true) → AnyZ P md ops Q S z fuel (listed.setIfInBounds i true) (a.put oi.dst v) w) : AnyZ P md ops Q S z (fuel + 1) listed a w :=
  anyZ_first (n := 0) (T := fun _ => True) (by simpa using hiz) (fun _ _ => trivial) hi (Region.noSelect_spec hs) hQ fuel listed a w hcl (.inl fun _ => trivial) (Region.free_spec hi hf) (by simpa using hr) hy trivial hS (h (hcl.set (by simpa using hr)))

/-- the one that may come up -/
theorem anyZ_one {i z : Nat} {oi : Oper} {fuel : Nat} {listed : Array Bool} {a : Act} {w : World} (hcl : Closed md ops listed) (hr : Region.ready md ops listed = [i]) (hi : ops[i]? = some oi) (hg : oi.guard = none)
    (h : Closed md ops (listed.setIfInBounds i true) → ∀ K : Act → World → Prop, (∀ a' w', ((listed.setIfInBounds i true).getD z true = false → S w') → AnyZ P md ops Q S z fuel (listed.setIfInBounds i true) a' w' → K a' w') → oi.wp P a w K Q) :
    AnyZ P md ops Q S z (fuel + 1) listed a w := by
  refine ⟨fun h0 => (by rw [hr] at h0; cases h0), fun j hj => ?_⟩
  rw [hr] at hj
  have hji : j = i := by simpa using hj
  subst hji
  unfold wpOp
  simp only [hi]
  rw [if_pos (by simp [Region.wanted, hg])]
  exact .inl (h (hcl.set (by rw [hr]; simp)) _ fun a' w' h1 h2 => ⟨h1, h2⟩)

theorem anyZ_two {i j z : Nat} {oi oj : Oper} {fuel : Nat} {listed : Array Bool} {a : Act} {w : World} (hcl : Closed md ops listed) (hr : Region.ready md ops listed = [i, j]) (hi : ops[i]? = some oi) (hgi : oi.guard = none) (hj : ops[j]? = some oj) (hgj : oj.guard = none)
    (h1 : Closed md ops (listed.setIfInBounds i true) → ∀ K : Act → World → Prop, (∀ a' w', ((listed.setIfInBounds i true).getD z true = false → S w') → AnyZ P md ops Q S z fuel (listed.setIfInBounds i true) a' w' → K a' w') → oi.wp P a w K Q)
    (h2 : Closed md ops (listed.setIfInBounds j true) → ∀ K : Act → World → Prop, (∀ a' w', ((listed.setIfInBounds j true).getD z true = false → S w') → AnyZ P md ops Q S z fuel (listed.setIfInBounds j true) a' w' → K a' w') → oj.wp P a w K Q) :
    AnyZ P md ops Q S z (fuel + 1) listed a w := by
  refine ⟨fun h0 => (by rw [hr] at h0; cases h0), fun k hk => ?_⟩
  rw [hr] at hk
  rcases List.mem_cons.1 hk with rfl | hk
  · unfold wpOp
    simp only [hi]
    rw [if_pos (by simp [Region.wanted, hgi])]
    exact .inl (h1 (hcl.set (by rw [hr]; simp)) _ fun a' w' h1 h2 => ⟨h1, h2⟩)
  · have hkj : k = j := by simpa using hk
    subst hkj
    unfold wpOp
    simp only [hj]
    rw [if_pos (by simp [Region.wanted, hgj])]
    exact .inl (h2 (hcl.set (by rw [hr]; simp)) _ fun a' w' h1 h2 => ⟨h1, h2⟩)

theorem anyZ_done {z : Nat} {listed : Array Bool} {a : Act} {w : World} (hr : Region.ready md ops listed = []) (h : Q .normal a w) : ∀ fuel, AnyZ P md ops Q S z fuel listed a w
  | 0 => ⟨hr, h⟩
  | _ + 1 => ⟨fun _ => h, by rw [hr]; simp⟩

theorem region_anyZ {z id : Nat} {a : Act} {w : World} (hm : P.follows .mixedOrders = true)
    (h : AnyZ P .any ops Q S z ops.size (Array.replicate ops.size false) a w.drew) : (Code.region id ops true).wp P Q a w :=
  wp_region_any hm (any_of_anyZ _ _ _ _ h)

/-- from number z on, one order -/
theorem anyZ_chain {z : Nat} : ∀ (l : List Oper) (k : Nat) (listed : Array Bool) (a : Act) (w : World), (∀ j, l[j]? = ops[k + j]?) → Region.seqB md ops l.length k listed = true → (z = k ∨ listed.getD z true = true) → (z < listed.size) →
    wpList P ops Q l a w → AnyZ P md ops Q S z l.length listed a w
  | [], k, listed, a, w, hl, hB, _, _, h => ⟨by simpa [Region.seqB] using hB, h⟩
  | o :: l, k, listed, a, w, hl, hB, hz, hzs, h => by
    have h0 : ops[k]? = some o := by simpa using (hl 0).symm
    simp only [List.length_cons, Region.seqB, Bool.and_eq_true, decide_eq_true_eq] at hB
    refine ⟨fun h1 => (by rw [hB.1] at h1; cases h1), fun i hi => ?_⟩
    rw [hB.1] at hi
    have hik : i = k := by simpa using hi
    subst hik
    have hzt : (listed.setIfInBounds i true).getD z true = true := by
      rcases hz with rfl | hz
      · simp [hzs]
      · by_cases hiz : i = z
        · subst hiz; simp [hzs]
        · rw [getD_set_ne true hiz]; exact hz
    have hw : wpOp P ops Q i (wpList P ops Q l) a w := by unfold wpOp; simp only [h0]; exact h
    exact wpOp_mono (fun a' w' h' => ⟨(fun h => by rw [hzt] at h; cases h), anyZ_chain l (i + 1) _ a' w' (fun j => by have := hl (j + 1); simpa [Nat.add_assoc, Nat.add_comm 1 j] using this) hB.2 (.inr hzt) (by simpa using hzs) h'⟩) hw

theorem anyZ_begin {z n fuel : Nat} {a : Act} {w : World} (h : Closed md ops (Array.replicate n false) → AnyZ P md ops Q S z fuel (Array.replicate n false) a w) : AnyZ P md ops Q S z fuel (Array.replicate n false) a w := h (closed_start n)
theorem anyZ_held {z fuel : Nat} {listed : Array Bool} {a : Act} {w : World} (hS : S w) (h : S w → AnyZ P md ops Q S z fuel listed a w) : AnyZ P md ops Q S z fuel listed a w := h hS

/-- from number z on, where all ahead of it have come up -/
theorem anyZ_chain_at {z fuel : Nat} {listed : Array Bool} {a : Act} {w : World} (hB : (Region.seqB md ops fuel z listed && decide (z < listed.size) && decide (fuel = ops.size - z)) = true)
    (h : wpList P ops Q (ops.toList.drop z) a w) : AnyZ P md ops Q S z fuel listed a w := by
  simp only [Bool.and_eq_true, decide_eq_true_eq] at hB
  obtain ⟨⟨h1, h2⟩, h3⟩ := hB
  have hl : (ops.toList.drop z).length = fuel := by simp [h3]
  have := anyZ_chain (P := P) (Q := Q) (S := S) (md := md) (ops := ops) (z := z) (ops.toList.drop z) z listed a w (fun j => by simp) (by rw [hl]; exact h1) (.inl rfl) h2 h
  rw [hl] at this
  exact this
end
end Go.Proofs.YtacfkhnajdneeaaDoor
/- A region that draws its order, with guards: the one, or the two, that may come up. No program is in sight. -/
namespace Go.Proofs.YtacfkhnajdneeaaDoor
open Go.RowKit
variable {P : Program} {ops : Array Oper} {Q : Exit → Act → World → Prop} {md : Region.Mode} {S : World → Prop}
theorem anyZ_oneG {i z : Nat} {oi : Oper} {fuel : Nat} {listed : Array Bool} {a : Act} {w : World} (hcl : Closed md ops listed) (hr : Region.ready md ops listed = [i]) (hi : ops[i]? = some oi) (hg : Region.wanted oi (yielded ops a.tmps) = true)
    (h : Closed md ops (listed.setIfInBounds i true) → ∀ K : Act → World → Prop, (∀ a' w', ((listed.setIfInBounds i true).getD z true = false → S w') → AnyZ P md ops Q S z fuel (listed.setIfInBounds i true) a' w' → K a' w') → oi.wp P a w K Q) :
    AnyZ P md ops Q S z (fuel + 1) listed a w := by
  refine ⟨fun h0 => (by rw [hr] at h0; cases h0), fun j hj => ?_⟩
  rw [hr] at hj
  have hji : j = i := by simpa using hj
  subst hji
  unfold wpOp
  simp only [hi]
  rw [if_pos hg]
  exact .inl (h (hcl.set (by rw [hr]; simp)) _ fun a' w' h1 h2 => ⟨h1, h2⟩)

theorem anyZ_twoG {i j z : Nat} {oi oj : Oper} {fuel : Nat} {listed : Array Bool} {a : Act} {w : World} (hcl : Closed md ops listed) (hr : Region.ready md ops listed = [i, j]) (hi : ops[i]? = some oi) (hgi : Region.wanted oi (yielded ops a.tmps) = true) (hj : ops[j]? = some oj) (hgj : Region.wanted oj (yielded ops a.tmps) = true)
    (h1 : Closed md ops (listed.setIfInBounds i true) → ∀ K : Act → World → Prop, (∀ a' w', ((listed.setIfInBounds i true).getD z true = false → S w') → AnyZ P md ops Q S z fuel (listed.setIfInBounds i true) a' w' → K a' w') → oi.wp P a w K Q)
    (h2 : Closed md ops (listed.setIfInBounds j true) → ∀ K : Act → World → Prop, (∀ a' w', ((listed.setIfInBounds j true).getD z true = false → S w') → AnyZ P md ops Q S z fuel (listed.setIfInBounds j true) a' w' → K a' w') → oj.wp P a w K Q) :
    AnyZ P md ops Q S z (fuel + 1) listed a w := by
  refine ⟨fun h0 => (by rw [hr] at h0; cases h0), fun k hk => ?_⟩
  rw [hr] at hk
  rcases List.mem_cons.1 hk with rfl | hk
  · unfold wpOp
    simp only [hi]
    rw [if_pos hgi]
    exact .inl (h1 (hcl.set (by rw [hr]; simp)) _ fun a' w' h1 h2 => ⟨h1, h2⟩)
  · have hkj : k = j := by simpa using hk
    subst hkj
    unfold wpOp
    simp only [hj]
    rw [if_pos hgj]
    exact .inl (h2 (hcl.set (by rw [hr]; simp)) _ fun a' w' h1 h2 => ⟨h1, h2⟩)
end Go.Proofs.YtacfkhnajdneeaaDoor
/- 'make([]byte, n)'. No program is in sight. -/
namespace Go.Proofs.YtacfkhnajdneeaaDoor
open Go.RowKit

theorem made8 (n : Nat) : (madeCells (.int .u8 0 : Value).cells (n * 1)).toList = (List.replicate n (0 : UInt8)).map B8 := by
  rw [List.map_replicate]
  apply List.eq_replicate_iff.2
  refine ⟨by rw [Array.length_toList, size_madeCells, Nat.mul_one], fun b hb => ?_⟩
  unfold madeCells at hb
  rw [Array.toList_map] at hb
  obtain ⟨a, _, rfl⟩ := List.mem_map.1 hb
  show (#[(.int .u8 0 : Value)] : Array Value)[a % 1]! = _
  rw [Nat.mod_one]
  rfl

/-- what '[]byte' asks of a make -/
structure MakeTy (P : Program) (t e : TypeId) : Prop where
  ht : P.underlying t = some (.slice e)
  ex : ∃ i, P.info? e = some i ∧ i.zero = some (.int .u8 0) ∧ i.size = 1 ∧ i.bytes = 1

theorem MakeTy.mk' {P : Program} {t e : TypeId} (ht : P.underlying t = some (.slice e)) (hi : (P.info? e).map (fun i => (i.zero, i.size, i.bytes)) = some (some (.int .u8 0), 1, 1)) : MakeTy P t e := by
  obtain ⟨i, h1, h2, h3, h4⟩ := info_parts hi
  exact ⟨ht, i, h1, h2, h3, h4⟩

theorem run_make8 {P : Program} (w : World) {t e : TypeId} (T : MakeTy P t e) (n : Nat) (hn : n ≤ 1000000) :
    ∃ w', (Instr.makeSlice t (.int .i64 n) (.int .i64 n)).run P w = .ok (.slice (some ⟨w.heap.size, 0, none⟩) n n) w' ∧ Own8 e w.heap.size w' (.slice (some ⟨w.heap.size, 0, none⟩) n n) (List.replicate n 0) ∧ Below w.heap.size w w' := by
  obtain ⟨i, hi, hz, hs, hb⟩ := T.ex
  obtain ⟨w', hrun, r1, r2⟩ := run_make_full (P := P) w w.heap.size t e i (.int .u8 0) 1 T.ht hi hz hs .i64 .i64 n (by rw [hb]; omega) (by unfold maxLen; omega) (Nat.le_refl _)
  rw [made8] at r1
  exact ⟨w', hrun, by unfold Own8; rw [List.length_replicate]; exact r1, ⟨r2.os, r2.tape, r2.output, r2.size, fun k hk => r2.block k hk (by simp)⟩⟩

theorem wp_make8 {P : Program} {o : Oper} {a : Act} {w : World} {K : Act → World → Prop} {Q : Exit → Act → World → Prop} (l c : Operand) (t e : TypeId) (T : MakeTy P t e) (ho : o.op = .makeSlice t l c) (n : Nat) (hl : a.eval l = .int .i64 n) (hc : a.eval c = .int .i64 n) (hn : n ≤ 1000000)
    (h : ∀ w', Own8 e w.heap.size w' (.slice (some ⟨w.heap.size, 0, none⟩) n n) (List.replicate n 0) → Below w.heap.size w w' → K (a.put o.dst (.slice (some ⟨w.heap.size, 0, none⟩) n n)) w') : o.wp P a w K Q := by
  obtain ⟨w', hr, h1, h2⟩ := run_make8 w T n hn
  unfold Oper.wp execOp
  simp only [ho, hl, hc, Sem.run_bind, hr, Result.andThen_ok]
  exact h w' h1 h2

theorem wpList_make8 {P : Program} {w : World} {ops : Array Oper} {rest : List Oper} {o : Oper} {a : Act} {Q : Exit → Act → World → Prop} (hgd : o.guard = none) (l c : Operand) (t e : TypeId) (T : MakeTy P t e) (ho : o.op = .makeSlice t l c) (n : Nat) (hl : a.eval l = .int .i64 n) (hc : a.eval c = .int .i64 n) (hn : n ≤ 1000000)
    (h : ∀ w', Own8 e w.heap.size w' (.slice (some ⟨w.heap.size, 0, none⟩) n n) (List.replicate n 0) → Below w.heap.size w w' → wpList P ops Q rest (a.put o.dst (.slice (some ⟨w.heap.size, 0, none⟩) n n)) w') : wpList P ops Q (o :: rest) a w :=
  wpList_plain hgd fun _ hK => wp_make8 l c t e T ho n hl hc hn fun w' h1 h2 => hK _ _ (h w' h1 h2)
end Go.Proofs.YtacfkhnajdneeaaDoor
/- Walk: Full: bytes as a whole sector. -/
namespace Go.Proofs.YtacfkhnajdneeaaDoor
open Go.RowKit

theorem make8 : MakeTy Tryd.prog 23 5 := MakeTy.mk' Tryd.underlying23 (by kernel_rfl)

/-- bytes as a whole sector -/
def fullOf (p : List UInt8) : List UInt8 := (p.take 512 ++ List.replicate 512 0).take 512
theorem fullOf_length (p : List UInt8) : (fullOf p).length = 512 := by unfold fullOf; rw [List.length_take, List.length_append, List.length_replicate]; omega

set_option maxRecDepth 10000 in
set_option maxHeartbeats 800000 in
theorem full_any (v : Value) (p : List UInt8) (w : World) (hv : Bytes w v p) :
    Calls Tryd.prog 37 #[v] w fun e w' => ∃ v', e = .returned v' ∧ Own8 5 w.heap.size w' v' (fullOf p) ∧ Below w.heap.size w w' := by
  have hbig : [p.take 512, List.replicate 512 (0 : UInt8)].flatten.length ≤ 140737488355328 := by
    rw [List.flatten_cons, List.flatten_cons, List.flatten_nil, List.append_nil, List.length_append, List.length_take, List.length_replicate]; omega
  have hfl : [p.take 512, List.replicate 512 (0 : UInt8)].flatten = p.take 512 ++ List.replicate 512 0 := by
    rw [List.flatten_cons, List.flatten_cons, List.flatten_nil, List.append_nil]
  have HBIG := Lib.hid hbig
  have HFL := Lib.hid hfl
  clear hbig hfl
  have hv0 : Bytes w.drew v p := hv.drew
  have HV := Lib.hid hv0
  obtain ⟨a, c, rfl, _⟩ := id hv
  clear hv hv0
  go_enter Tryd.func37, Tryd.ntmps37
  go_wp2
  refine region_anyZ (z := 3) (S := fun _ => True) (by kernel_rfl) ?_
  refine anyZ_begin (fun hcl0 => ?_)
  refine anyZ_held trivial (fun hHeld => ?_)
  refine' anyZ_pure (i := 0) (v := _) rfl (by rfl) (by kernel_rfl) (by kernel_rfl) (by kernel_rfl) hcl0 (fun _ _ _ h => h) (Or.inl ⟨by rfl, fun w _ => ?h1⟩) (fun _ => hHeld) (fun hcl1 => ?r1)
  case h1 => (simp only [List.getElem_toArray, List.getElem_cons_zero]; first | (go_simp; with_reducible rfl) | (go_simp; done) | rfl)
  simp only [List.getElem_toArray, List.getElem_cons_zero, Act.put, List.setIfInBounds_toArray, List.set_cons_zero, List.set_cons_succ]
  refine anyZ_two (i := 1) (j := 2) hcl1 (by kernel_rfl) (by simp only [List.getElem?_toArray, List.getElem?_cons_succ, List.getElem?_cons_zero]; rfl) (by rfl) (by simp only [List.getElem?_toArray, List.getElem?_cons_succ, List.getElem?_cons_zero]; rfl) (by rfl) (fun hcl2 K hK => ?_) (fun hcl2 K hK => ?_)
  · go_simp
    refine (cut_any _ p 512 (by omega) (by omega) w.drew HV.out).mono ?_
    rintro e w1 ⟨vc, rfl, hoc1, hb1⟩
    refine hK _ _ (fun _ => trivial) ?_
    clear hK K
    try simp only [Act.put, List.setIfInBounds_toArray, List.set_cons_zero, List.set_cons_succ]
    refine anyZ_one (i := 2) hcl2 (by kernel_rfl) (by simp only [List.getElem?_toArray, List.getElem?_cons_succ, List.getElem?_cons_zero]; rfl) (by rfl) (fun hcl3 K hK => ?_)
    refine wp_make8 _ _ 23 5 make8 rfl 512 rfl rfl (by omega) ?_
    intro w2 hom hb12
    have hoc := Own8.kept hoc1 (Nat.le_refl _) hb12
    have hb2 : Below w.heap.size w w2 := btr (btr (bdr (bre w)) hb1) hb12
    obtain ⟨gm, hgm⟩ : ∃ gm, gm = w1.heap.size := ⟨_, rfl⟩
    rw [← hgm] at hom ⊢
    clear hgm hoc1 hb12 hb1 hcl2
    refine hK _ _ (fun _ => trivial) ?_
    clear hK K hcl3 hHeld
    try simp only [Act.put, List.setIfInBounds_toArray, List.set_cons_zero, List.set_cons_succ]
    refine anyZ_chain_at (by kernel_rfl) ?_
    simp only [List.drop_succ_cons, List.drop_zero]
    rw [show (512 : Int).toNat = 512 by rfl] at hoc
    have hsz := hb2.size
    obtain ⟨ac, nc, cc, rfl⟩ := hoc.isSlice
    have HOC := Lib.hid hoc
    have HOM := Lib.hid hom
    clear hoc hom
    go_wp2_with fail
    have hb3 := bal (bre w2) (.cells #[.slice ac nc cc, .slice (some ⟨gm, 0, none⟩) 512 512] 23)
    have hrows := rows_lit2 w2 (.slice ac nc cc) (.slice (some ⟨gm, 0, none⟩) 512 512) (p.take 512) (List.replicate 512 0) 23 w2.heap.size rfl HOC.out.bytes HOM.out.bytes
    generalize w2.alloc (.cells #[.slice ac nc cc, .slice (some ⟨gm, 0, none⟩) 512 512] 23) = w3 at *
    refine (join_any _ [p.take 512, List.replicate 512 0] w3 hrows HBIG.out).mono ?_
    rintro e w4 ⟨v4, rfl, ho4, hb4⟩
    rw [HFL.out] at ho4
    go_wp2_with fail
    refine (cut_any v4 _ 512 (by omega) (by omega) w4 ho4.bytes).mono ?_
    rintro e w5 ⟨v5, rfl, ho5, hb5⟩
    rw [show (512 : Int).toNat = 512 by rfl] at ho5
    have hbe := btr (btr (btr hb2 hb3) hb4) hb5
    have ho6 : Own8 5 w.heap.size w5 v5 (fullOf p) := ownsRow_base ho5 (by have := (btr (btr hb2 hb3) hb4).size; exact this)
    go_wp2
    go_ret
    exact ⟨_, rfl, ho6, hbe⟩
  · refine wp_make8 _ _ 23 5 make8 rfl 512 rfl rfl (by omega) ?_
    intro w1 hom1 hb1
    refine hK _ _ (fun _ => trivial) ?_
    clear hK K
    try simp only [Act.put, List.setIfInBounds_toArray, List.set_cons_zero, List.set_cons_succ]
    refine anyZ_one (i := 1) hcl2 (by kernel_rfl) (by simp only [List.getElem?_toArray, List.getElem?_cons_succ, List.getElem?_cons_zero]; rfl) (by rfl) (fun hcl3 K hK => ?_)
    go_simp
    refine (cut_any _ p 512 (by omega) (by omega) w1 (HV.out.below hb1)).mono ?_
    rintro e w2 ⟨vc, rfl, hoc, hb12⟩
    have hom : Own8 5 w.drew.heap.size w2 (.slice (some ⟨w.heap.size, 0, none⟩) 512 512) (List.replicate 512 0) := Own8.kept hom1 (Nat.le_refl _) hb12
    have hb2 : Below w.heap.size w w2 := btr (btr (bdr (bre w)) hb1) hb12
    clear hom1 hb12 hb1 hcl2
    refine hK _ _ (fun _ => trivial) ?_
    clear hK K hcl3 hHeld
    try simp only [Act.put, List.setIfInBounds_toArray, List.set_cons_zero, List.set_cons_succ]
    refine anyZ_chain_at (by kernel_rfl) ?_
    simp only [List.drop_succ_cons, List.drop_zero]
    rw [show (512 : Int).toNat = 512 by rfl] at hoc
    have hsz := hb2.size
    obtain ⟨ac, nc, cc, rfl⟩ := hoc.isSlice
    have HOC := Lib.hid hoc
    have HOM := Lib.hid hom
    clear hoc hom
    go_wp2_with fail
    have hb3 := bal (bre w2) (.cells #[.slice ac nc cc, .slice (some ⟨w.heap.size, 0, none⟩) 512 512] 23)
    have hrows := rows_lit2 w2 (.slice ac nc cc) (.slice (some ⟨w.heap.size, 0, none⟩) 512 512) (p.take 512) (List.replicate 512 0) 23 w2.heap.size rfl HOC.out.bytes HOM.out.bytes
    generalize w2.alloc (.cells #[.slice ac nc cc, .slice (some ⟨w.heap.size, 0, none⟩) 512 512] 23) = w3 at *
    refine (join_any _ [p.take 512, List.replicate 512 0] w3 hrows HBIG.out).mono ?_
    rintro e w4 ⟨v4, rfl, ho4, hb4⟩
    rw [HFL.out] at ho4
    go_wp2_with fail
    refine (cut_any v4 _ 512 (by omega) (by omega) w4 ho4.bytes).mono ?_
    rintro e w5 ⟨v5, rfl, ho5, hb5⟩
    rw [show (512 : Int).toNat = 512 by rfl] at ho5
    have hbe := btr (btr (btr hb2 hb3) hb4) hb5
    have ho6 : Own8 5 w.heap.size w5 v5 (fullOf p) := ownsRow_base ho5 (by have := (btr (btr hb2 hb3) hb4).size; exact this)
    go_wp2
    go_ret
    exact ⟨_, rfl, ho6, hbe⟩
end Go.Proofs.YtacfkhnajdneeaaDoor
