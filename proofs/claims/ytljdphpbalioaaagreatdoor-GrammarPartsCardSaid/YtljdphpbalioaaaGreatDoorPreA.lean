/- Merged: Base App Long Still Ord OrdG Make In InAgg Recs arena/Seq arena/MapU arena/Ids arena/Nd. -/
import Derived.WalkKit
import Derived.WalkSpells
import Derived.LoopTactic
import Derived.Lib.Hide
import Derived.Deep.WholeRow
import Derived.Deep.MidRow
import Derived.Laws.CopyOwn
import Derived.Laws.AppendOwnNone
import Derived.Laws.BytesString
import Derived.Deep.Draws
import Derived.ArgAppend
import Derived.Laws.IdiomStrings
import Derived.Laws.OwnMore
import Derived.StillTailTactics
import Derived.Great.BuildSlice
import Derived.OrdersHeld
import Derived.OwnWalk
import Derived.Deep.Slices
import Derived.ProofKit
import Derived.Deep.Fields
import Derived.ChangeSame
import Derived.RangeFuncNested
import Derived.RangeFuncBound
import Derived.RangeFuncCalls
import Derived.RangeFuncLeaves
import Derived.Maps.OwnSet
import Derived.Maps.RangeWalk
import Derived.Test.YtljdphpbalioaaaGreatDoorChecked
import Derived.Deep.CutBlock
import Derived.Deep.CutRange
import Derived.BigQuiet
import Derived.Deep.QuietTactic
/- Slices that are read: what lies where a slice points to, whatever its kind; what stays when memory grows. No program is in sight. -/
namespace Go.Proofs.YtljdphpbalioaaaGreatDoor
open Go.RowKit

def B8 (b : UInt8) : Value := .int .u8 (b.toNat : Int)

/-- the cells cs lie where the address points to -/
def Lies (w : World) (a : Option Addr) (cs : List Value) : Prop := cs = [] ∨ ∃ g o, a = some ⟨g, o, none⟩ ∧ w.rangeAt g o cs

/-- a slice of one-cell elements, each of which stands for one of l -/
def SliceOf {α : Type} (R : World → Value → α → Prop) (w : World) (v : Value) (l : List α) : Prop :=
  ∃ a c, v = .slice a l.length c ∧ l.length ≤ maxLen ∧ l.length ≤ c ∧ (a = none → c = 0) ∧ (l = [] ∨ ∃ g o, a = some ⟨g, o, none⟩ ∧ ∀ j x, l[j]? = some x → ∃ u, w.cell? ⟨g, o + j, none⟩ = some u ∧ R w u x)

/-- a slice of bytes -/
def Bytes (w : World) (v : Value) (l : List UInt8) : Prop := SliceOf (fun _ u b => u = B8 b) w v l

theorem SliceOf.mono {α : Type} {R S : World → Value → α → Prop} {w w' : World} {v : Value} {l : List α} (h : SliceOf R w v l) (hb : Below w.heap.size w w')
    (hR : ∀ u x, x ∈ l → R w u x → S w' u x) : SliceOf S w' v l := by
  obtain ⟨a, c, rfl, hm, hc, hn, h⟩ := h
  refine ⟨a, c, rfl, hm, hc, hn, ?_⟩
  rcases h with h | ⟨g, o, ha, h⟩
  · exact .inl h
  · refine .inr ⟨g, o, ha, fun j x hx => ?_⟩
    obtain ⟨u, hu, hr⟩ := h j x hx
    exact ⟨u, (hb.cell (block_lt_of_cell hu)).trans hu, hR u x (List.mem_of_getElem? hx) hr⟩

theorem Bytes.below {w w' : World} {v : Value} {l : List UInt8} (h : Bytes w v l) (hb : Below w.heap.size w w') : Bytes w' v l := SliceOf.mono h hb fun _ _ _ h => h

/-- rows of bytes -/
def Rows8 (w : World) (v : Value) (ls : List (List UInt8)) : Prop := SliceOf Bytes w v ls
theorem Rows8.below {w w' : World} {v : Value} {l : List (List UInt8)} (h : Rows8 w v l) (hb : Below w.heap.size w w') : Rows8 w' v l := SliceOf.mono h hb fun _ _ _ h => h.below hb

theorem take_snoc_u8 {α : Type} (l : List α) (k : Nat) (h : k < l.length) : l.take (k + 1) = l.take k ++ [l[k]] := List.take_succ_eq_append_getElem h

/-! ### Rows of one's own, and append -/

/-- what an append asks of a slice's type t, its element type e -/
structure RowTy (P : Program) (t e size bytes : Nat) : Prop where
  ht : P.underlying t = some (.slice e)
  ex : ∃ i z, P.info? e = some i ∧ i.zero = some z ∧ i.size = size ∧ i.bytes = bytes ∧ z.cells.size = size
  pos : 0 < size

theorem RowTy.mk' {P : Program} {t e size bytes : Nat} {z : Value} (ht : P.underlying t = some (.slice e)) (hi : (P.info? e).map (fun i => (i.zero, i.size, i.bytes)) = some (some z, size, bytes))
    (hz : z.cells.size = size) (hp : 0 < size) : RowTy P t e size bytes := by
  obtain ⟨i, h1, h2, h3, h4⟩ := info_parts hi
  exact ⟨ht, ⟨i, z, h1, h2, h3, h4, hz⟩, hp⟩

theorem ownsRow_base {w : World} {base base' : Nat} {e : TypeId} {size : Nat} {v : Value} {n : Nat} {xs : List Value} (h : w.ownsRow base e size v n xs) (hb : base' ≤ base) : w.ownsRow base' e size v n xs := by
  refine ⟨h.1, ?_⟩
  rcases h.2 with h | ⟨g, cap, cur, h1, h2, h3⟩
  · exact .inl h
  · exact .inr ⟨g, cap, cur, h1, Nat.le_trans hb h2, h3⟩

theorem ownsRow_lies {w : World} {base : Nat} {e : TypeId} {size : Nat} {v : Value} {n : Nat} {xs : List Value} (h : w.ownsRow base e size v n xs) :
    ∃ a c, v = .slice a n c ∧ n ≤ c ∧ c ≤ maxLen ∧ (a = none → c = 0) ∧ Lies w a xs ∧ (∀ g o s, a = some ⟨g, o, s⟩ → base ≤ g ∧ g < w.heap.size ∧ o = 0 ∧ s = none) := by
  rcases h.2 with ⟨rfl, rfl⟩ | ⟨g, cap, cur, rfl, hb, hg, hn, hc, hs, ht⟩
  · exact ⟨none, 0, rfl, Nat.le_refl _, Nat.zero_le _, fun _ => rfl, .inl (by simpa using h.1), fun g o s hh => by cases hh⟩
  · refine ⟨_, cap, rfl, hn, hc, fun h => (by cases h), .inr ⟨g, 0, rfl, fun j v hv => ?_⟩, fun g' o' s' e => by cases e; exact ⟨hb, (Array.getElem?_eq_some_iff.1 hg).1, rfl, rfl⟩⟩
    have := h.cells (g := g) rfl j v hv
    rwa [Addr.add_mid] at this

/-- an append to a row of one's own, whatever the source is -/
theorem wpList_app {P : Program} {w : World} {ops : Array Oper} {rest : List Oper} {o : Oper} {a : Act} {Q : Exit → Act → World → Prop} (hgd : o.guard = none) (s x : Operand)
    (t e size bytes : Nat) (T : RowTy P t e size bytes) (ho : o.op = .call { callee := .builtin .append, args := #[s, x], argTypes := #[t, t] })
    (base : Nat) (v : Value) (n : Nat) (xs : List Value) (hs : a.eval s = v) (hown : w.ownsRow base e size v n xs)
    (ad : Option Addr) (m c : Nat) (news : List Value) (hx : a.eval x = .slice ad m c) (hl : news.length = m * size) (hlies : Lies w ad news) (hcap : m ≤ c) (hnil : ad = none → c = 0) (h1 : ∀ u ∈ news, u.oneCell' = true)
    (h63 : n + m ≤ maxLen) (hbytes : (n + m) * bytes ≤ 140737488355328) (hbase : base ≤ w.heap.size)
    (h : ∀ v' w', w'.ownsRow base e size v' (n + m) (xs ++ news) → w.grownBy w' v.ownBlock → Below base w w' → wpList P ops Q rest (a.put o.dst v') w') : wpList P ops Q (o :: rest) a w := by
  obtain ⟨i, z, hi, hz, hsz, hby, hzs⟩ := T.ex
  have fin : ∀ v' w', w'.ownsRow base e size v' (n + m) (xs ++ news) → w.grownBy w' v.ownBlock → wpList P ops Q rest (a.put o.dst v') w' := fun v' w' h2 h3 =>
    h v' w' h2 h3 ((Below.refl base w).grown h3 hbase (fun k hk => (hown.lt k hk).1))
  cases ad with
  | none =>
    have hc0 := hnil rfl
    subst hc0
    have hm : m = 0 := by omega
    subst hm
    have hn0 : news = [] := by simpa using hl
    subst hn0
    refine wpList_append_own_none hgd s x t ho base e i size T.ht hi v n xs hs hown hx ?_
    exact fin v w (by simpa using hown) ⟨rfl, rfl, rfl, Nat.le_refl _, fun _ _ _ => rfl⟩
  | some ad =>
    refine wpList_append_own w hgd s x t ho base e i z size bytes T.ht hi hz hsz hby hzs T.pos v n xs hs hown ad m c news hx hl ?_ h1 h63 hbytes hbase (fun v' w' h2 h3 _ => fin v' w' h2 h3)
    intro j u hu
    rcases hlies with h0 | ⟨g, o', ha, hr⟩
    · subst h0; simp at hu
    · cases ha
      rw [Addr.add_mid]
      exact hr j u hu

theorem lies_one (w : World) (x : Value) (t : TypeId) : Lies (w.alloc (.cells #[x] t)) (some ⟨w.heap.size, 0, none⟩) [x] :=
  .inr ⟨_, _, rfl, fun j u hu => by
    have := World.cell?_alloc_new w #[x] t j
    rw [Nat.zero_add, this]
    simpa using hu⟩

/-! ### Bytes of one's own -/
def Own8 (e : TypeId) (base : Nat) (w : World) (v : Value) (l : List UInt8) : Prop := w.ownsRow base e 1 v l.length (l.map B8)

theorem B8_one (l : List UInt8) : ∀ u ∈ l.map B8, u.oneCell' = true := by
  intro u hu
  obtain ⟨b, _, rfl⟩ := List.mem_map.1 hu
  rfl

theorem Own8.bytes {e : TypeId} {base : Nat} {w : World} {v : Value} {l : List UInt8} (h : Own8 e base w v l) : Bytes w v l := by
  obtain ⟨a, c, rfl, hc, hm, hn, hl, _⟩ := ownsRow_lies h
  refine ⟨a, c, rfl, Nat.le_trans hc hm, hc, hn, ?_⟩
  rcases hl with h0 | ⟨g, o, ha, hr⟩
  · exact .inl (by simpa using h0)
  · exact .inr ⟨g, o, ha, fun j x hx => ⟨B8 x, hr j _ (by simp [hx]), rfl⟩⟩

theorem Own8.nil (e : TypeId) (base : Nat) (w : World) : Own8 e base w (.slice none 0 0) [] := World.ownsRow_nil _ _ _ _

theorem Own8.kept {e : TypeId} {base base' : Nat} {w w' : World} {v : Value} {l : List UInt8} (h : Own8 e base w v l) (hb : base' ≤ base) (hB : Below w.heap.size w w') : Own8 e base' w' v l := by
  refine ownsRow_base (World.ownsRow.kept (row := none) h ⟨hB.os, hB.tape, hB.output, hB.size, fun k hk _ => hB.block k hk⟩ ?_) hb
  cases v.ownBlock <;> simp

/-- what is read of a slice of bytes -/
theorem Bytes.lies {w : World} {v : Value} {l : List UInt8} (h : Bytes w v l) : ∃ a c, v = .slice a l.length c ∧ l.length ≤ maxLen ∧ l.length ≤ c ∧ (a = none → c = 0) ∧ Lies w a (l.map B8) := by
  obtain ⟨a, c, rfl, hm, hc, hn, h⟩ := h
  refine ⟨a, c, rfl, hm, hc, hn, ?_⟩
  rcases h with h | ⟨g, o, ha, h⟩
  · exact .inl (by simpa using h)
  · refine .inr ⟨g, o, ha, fun j u hu => ?_⟩
    simp only [List.getElem?_map, Option.map_eq_some_iff] at hu
    obtain ⟨x, hx, rfl⟩ := hu
    obtain ⟨u, hu, rfl⟩ := h j x hx
    exact hu

theorem Own8.snoc {e : TypeId} {base : Nat} {w : World} {v : Value} {l : List UInt8} {b : UInt8} (h : w.ownsRow base e 1 v (l.length + 1) (l.map B8 ++ [B8 b])) : Own8 e base w v (l ++ [b]) := by
  unfold Own8; simpa using h
theorem Own8.app {e : TypeId} {base : Nat} {w : World} {v : Value} {l m : List UInt8} (h : w.ownsRow base e 1 v (l.length + m.length) (l.map B8 ++ m.map B8)) : Own8 e base w v (l ++ m) := by
  unfold Own8; simpa using h

theorem bytes_one (w : World) (b : UInt8) (e : TypeId) : Bytes (w.alloc (.cells #[B8 b] e)) (.slice (some ⟨w.heap.size, 0, none⟩) 1 1) [b] :=
  ⟨_, 1, rfl, by simp [maxLen], Nat.le_refl _, fun h => (by cases h), .inr ⟨_, _, rfl, fun j x hx => ⟨B8 x, by
    have := World.cell?_alloc_new w #[B8 b] e j
    rw [Nat.zero_add, this]
    have : j = 0 := by have := (List.getElem?_eq_some_iff.1 hx).1; simpa using this
    subst this
    simp at hx
    subst hx
    rfl, rfl⟩⟩⟩

/-- an append of bytes to bytes of one's own -/
theorem wpList_app8 {P : Program} {w : World} {ops : Array Oper} {rest : List Oper} {o : Oper} {a : Act} {Q : Exit → Act → World → Prop} (hgd : o.guard = none) (s x : Operand)
    (t e : Nat) (T : RowTy P t e 1 1) (ho : o.op = .call { callee := .builtin .append, args := #[s, x], argTypes := #[t, t] })
    (base : Nat) (v : Value) (l : List UInt8) (hs : a.eval s = v) (hown : Own8 e base w v l)
    (u : Value) (m : List UInt8) (hx : a.eval x = u) (hm : Bytes w u m) (hbytes : l.length + m.length ≤ 140737488355328) (hbase : base ≤ w.heap.size)
    (h : ∀ v' w', Own8 e base w' v' (l ++ m) → w.grownBy w' v.ownBlock → Below base w w' → wpList P ops Q rest (a.put o.dst v') w') : wpList P ops Q (o :: rest) a w := by
  obtain ⟨ad, c, rfl, hm0, hmc, hn, hl⟩ := hm.lies
  exact wpList_app hgd s x t e 1 1 T ho base v l.length (l.map B8) hs hown ad m.length c (m.map B8) hx (by simp) hl hmc hn (B8_one m) (by unfold maxLen; omega) (by omega) hbase
    (fun v' w' h1 h2 h3 => h v' w' (Own8.app h1) h2 h3)

/-- the string of some bytes -/
def strOf (l : List UInt8) : ByteArray := ⟨l.toArray⟩

theorem strOf_toList (l : List UInt8) : (strOf l).toList = l := by
  rw [ByteArray.toList_eq]; rfl

theorem foldl_push (l : List UInt8) : ∀ s : ByteArray, (l.map fun b => (b.toNat : Int)).foldl (fun r n => r.push (UInt8.ofNat n.toNat)) s = ⟨s.data ++ l.toArray⟩ := by
  induction l with
  | nil => intro s; simp
  | cons b l ih =>
    intro s
    rw [List.map_cons, List.foldl_cons, ih]
    congr 1
    simp [ByteArray.push]

theorem run_str {P : Program} (w : World) (src dst e : TypeId) (v : Value) (p : List UInt8) (hv : Bytes w v p)
    (hs : P.underlying src = some (.slice e)) (he : P.underlying e = some (.int .u8)) (hd : P.underlying dst = some .string) :
    (convert src dst v).run P w = .ok (.string (strOf p)) w := by
  obtain ⟨a, c, rfl, hm, hc, hn, hl⟩ := hv.lies
  rw [run_convert_bytes_string w src dst e a _ c hs he hd]
  cases a with
  | none =>
    have hc0 := hn rfl
    subst hc0
    have hp : p = [] := List.length_eq_zero_iff.1 (by omega)
    subst hp
    rfl
  | some ad =>
    have hload : (loadCells ad p.length).run P w = .ok ((p.map fun b => (b.toNat : Int)).map (Value.int .u8)).toArray w := by
      have h := run_loadCells_list (P := P) w ad (p.map B8) (fun j u hu => by
        rcases hl with h0 | ⟨g, o, ha, hr⟩
        · rw [h0] at hu; simp at hu
        · cases ha
          rw [Addr.add_mid]
          exact hr j u hu)
      rw [List.length_map] at h
      rw [h, List.map_map]
      rfl
    rw [run_bytesToString w ad p.length c _ hload, foldl_push]
    have he' : ByteArray.empty.data = #[] := rfl
    rw [he']
    simp [strOf]

/-- a literal of bytes -/
theorem own8_lit (e : TypeId) (w : World) (cs : Array Value) (l : List UInt8) (n : Nat) (h : cs.toList = l.map B8) (hn : n = l.length) (hm : l.length ≤ maxLen) :
    Own8 e w.heap.size (w.alloc (.cells cs e)) (.slice (some ⟨w.heap.size, 0, none⟩) n n) l := by
  subst hn
  have hs : cs.size = l.length := by rw [← Array.length_toList, h, List.length_map]
  refine ⟨by simp, .inr ⟨w.heap.size, l.length, cs, rfl, Nat.le_refl _, heap_alloc_new w _, Nat.le_refl _, hm, by omega, ?_⟩⟩
  rw [Nat.mul_one, h, List.take_of_length_le (by simp)]

theorem SliceOf.firsts {α : Type} {R : World → Value → α → Prop} {w : World} {a : Option Addr} {n c : Nat} {l : List α} (h : SliceOf R w (.slice a n c) l) (m : Nat) (hm : m ≤ l.length) : SliceOf R w (.slice a m c) (l.take m) := by
  obtain ⟨a', c', e, h1, h2, h3, h4⟩ := h
  cases e
  refine ⟨a, c, by rw [List.length_take, Nat.min_eq_left hm], by rw [List.length_take]; omega, by rw [List.length_take]; omega, h3, ?_⟩
  rcases h4 with h4 | ⟨g, o, ha, h4⟩
  · left; simp [h4]
  · refine .inr ⟨g, o, ha, fun j x hx => h4 j x ?_⟩
    rw [List.getElem?_take] at hx
    split at hx
    · exact hx
    · cases hx

theorem rangeAt_below {w w' : World} {B b o : Nat} {cs : List Value} (h : w.rangeAt b o cs) (hb : Below B w w') (hlt : b < B) : w'.rangeAt b o cs :=
  fun j v hv => (hb.cell (p := ⟨b, o + j, none⟩) hlt).trans (h j v hv)

theorem rangeAt_new (w : World) (cs : List Value) (t : TypeId) (n : Nat) (hn : n = w.heap.size) : (w.alloc (.cells cs.toArray t)).rangeAt n 0 cs := fun j v hv => by
  subst hn
  rw [Nat.zero_add, World.cell?_alloc_new w cs.toArray t j]
  simpa using hv

theorem below_draw {w w' : World} {B : Nat} (h : Below B w w') : Below B w w'.drew := h.drew

/-- a whole row into the block that was made last -/
theorem wpList_store_new {P : Program} {w : World} {ops : Array Oper} {rest : List Oper} {o : Oper} {a : Act} {Q : Exit → Act → World → Prop} (hgd : o.guard = none) (ty : TypeId) (x y : Operand) (ho : o.op = .store ty x y)
    (z cells : Array Value) (n : Nat) (hn : n = w.heap.size) (hx : a.eval x = .pointer (some ⟨n, 0, none⟩)) (hy : a.eval y = .agg cells) (hi : (P.info? ty).map (·.size) = some cells.size)
    (hz : z.size = cells.size) (h1 : cells.all (·.oneCell') = true) (h : wpList P ops Q rest (a.put o.dst undef) (w.alloc (.cells cells ty))) : wpList P ops Q (o :: rest) a (w.alloc (.cells z ty)) := by
  subst hn
  refine wpList_store_row hgd ty x y ho w.heap.size cells hx hy ty z (heap_alloc_new w _) hi hz h1 ?_
  rw [World.setRow_alloc_new]
  exact h

theorem Bytes.suffix {w : World} {a : Option Addr} {n c : Nat} {l : List UInt8} (h : Bytes w (.slice a n c) l) (m : Nat) (hm : m ≤ l.length) :
    Bytes w (.slice (if c = m then a else a.map (·.add m)) (n - m) (c - m)) (l.drop m) := by
  obtain ⟨a', c', e, h1, h2, h3, h4⟩ := h
  cases e
  refine ⟨_, _, by rw [List.length_drop], by rw [List.length_drop]; omega, by rw [List.length_drop]; omega, ?_, ?_⟩
  · intro h
    split at h
    · omega
    · cases a with
      | none => have := h3 rfl; omega
      | some a => simp at h
  · rcases h4 with h4 | ⟨g, o, ha, h4⟩
    · left; simp [h4]
    · subst ha
      by_cases hl : l.drop m = []
      · exact .inl hl
      · have hlt : m < l.length := by
          rcases Nat.lt_or_ge m l.length with h | h
          · exact h
          · exact absurd (List.drop_eq_nil_of_le h) hl
        right
        rw [if_neg (by omega)]
        refine ⟨g, o + m, by rw [Option.map_some, Addr.add_mid], fun j x hx => ?_⟩
        rw [List.getElem?_drop] at hx
        rw [Nat.add_assoc]
        exact h4 _ x hx

/-- two rows of bytes in a new block -/
theorem rows_lit (w : World) (cs : List Value) (ls : List (List UInt8)) (e : TypeId) (n k : Nat) (hn : n = w.heap.size) (hk : k = ls.length) (hl : cs.length = ls.length) (hm : ls.length ≤ maxLen)
    (h : ∀ (j : Nat) v l, cs[j]? = some v → ls[j]? = some l → Bytes w v l) : Rows8 (w.alloc (.cells cs.toArray e)) (.slice (some ⟨n, 0, none⟩) k k) ls := by
  subst hn hk
  refine ⟨_, _, rfl, hm, Nat.le_refl _, fun h => (by cases h), .inr ⟨_, _, rfl, fun j x hx => ?_⟩⟩
  have hj : j < cs.length := by have := (List.getElem?_eq_some_iff.1 hx).1; omega
  refine ⟨cs[j], ?_, (h j _ x (List.getElem?_eq_getElem hj) hx).below ((Below.refl _ _).alloc (Nat.le_refl _) _)⟩
  rw [Nat.zero_add, World.cell?_alloc_new w cs.toArray e j]
  simp [hj]

theorem rows_lit2 (w : World) (v1 v2 : Value) (l1 l2 : List UInt8) (e : TypeId) (n : Nat) (hn : n = w.heap.size) (h1 : Bytes w v1 l1) (h2 : Bytes w v2 l2) :
    Rows8 (w.alloc (.cells #[v1, v2] e)) (.slice (some ⟨n, 0, none⟩) 2 2) [l1, l2] :=
  rows_lit w [v1, v2] [l1, l2] e n 2 hn rfl rfl (by simp [maxLen]) fun j v l hv hl => by
    match j with
    | 0 => simp at hv hl; subst hv hl; exact h1
    | 1 => simp at hv hl; subst hv hl; exact h2
    | j + 2 => simp at hv

theorem rows_lit1 (w : World) (v : Value) (l : List UInt8) (e : TypeId) (n : Nat) (hn : n = w.heap.size) (h : Bytes w v l) :
    Rows8 (w.alloc (.cells #[v] e)) (.slice (some ⟨n, 0, none⟩) 1 1) [l] :=
  rows_lit w [v] [l] e n 1 hn rfl rfl (by simp [maxLen]) fun j u l' hv hl => by
    match j with
    | 0 => simp at hv hl; subst hv hl; exact h
    | j + 1 => simp at hv

theorem rows_none (w : World) : Rows8 w (.slice none 0 0) [] := ⟨none, 0, rfl, by simp, Nat.le_refl _, fun _ => rfl, .inl rfl⟩

/-- 'v[k:]' -/
theorem run_suffix {P : Program} {w : World} {a : Option Addr} {n c : Nat} {l : List UInt8} (h : Bytes w (.slice a n c) l) (k t e : Nat) (hk : k ≤ l.length)
    (T : RowTy P t e 1 1) : ∃ A N C, (∀ w', (Instr.slice t (.slice a n c) (some (.int .i64 k)) none none).run P w' = .ok (.slice A N C) w') ∧ Bytes w (.slice A N C) (l.drop k) ∧ N = l.length - k := by
  have hs := Bytes.suffix h k hk
  obtain ⟨a', c', e1, h1, h2, _⟩ := h
  cases e1
  refine ⟨_, _, _, fun w' => ?_, hs, rfl⟩
  obtain ⟨i, z, hi, hz, hsz, hby, hzs⟩ := T.ex
  have hb : (sizeOf e).run P w' = .ok 1 w' := by simp [sizeOf, typeInfo, hi, hsz]
  have hkn : (k : Int) ≤ (l.length : Nat) := by omega
  simp [Instr.slice, run_underlying T.ht, Instr.sliceBounds, run_sliceBound, hb, hkn]

/-- an operation of which it is known what it yields, in whatever world it leaves -/
theorem wpList_yields {P : Program} {w : World} {ops : Array Oper} {rest : List Oper} {o : Oper} {a : Act} {Q : Exit → Act → World → Prop} (hgd : o.guard = none) (v : Value) (w' : World)
    (hr : (execOp a.eval o).run P w = .ok (.value v) w') (h : wpList P ops Q rest (a.put o.dst v) w') : wpList P ops Q (o :: rest) a w :=
  wpList_plain hgd fun K hK => by
    unfold Oper.wp
    rw [hr]
    exact hK _ _ h

/-- 'min(x, y)' under a name of its own -/
theorem wpList_min {P : Program} {w : World} {ops : Array Oper} {rest : List Oper} {o : Oper} {a : Act} {Q : Exit → Act → World → Prop} (hgd : o.guard = none) (x y : Operand) (ts : Array TypeId)
    (ho : o.op = .call { callee := .builtin .min, args := #[x, y], argTypes := ts }) (k : IntKind) (m n : Int) (hx : a.eval x = .int k m) (hy : a.eval y = .int k n)
    (h : ∀ r : Int, Hid (r = if n < m then n else m) → wpList P ops Q rest (a.put o.dst (.int k r)) w) : wpList P ops Q (o :: rest) a w := by
  refine wpList_yields hgd (.int k (if n < m then n else m)) w ?_ (h _ rfl)
  unfold execOp
  simp only [ho, resolve, invoke, builtin, Sem.run_bind, Sem.run_pure, Result.andThen_ok, List.map_toArray, List.map_cons, List.map_nil, hx, hy, run_min_int2]

/-! ### What was there stays: in short words -/
theorem bre (a : World) : Below a.heap.size a a := Below.refl _ _
theorem bal {a w : World} (h : Below a.heap.size a w) (o : Obj) : Below a.heap.size a (w.alloc o) := h.alloc h.size o
theorem btr {a w w' : World} (h : Below a.heap.size a w) (k : Below w.heap.size w w') : Below a.heap.size a w' := h.trans (k.mono h.size)
theorem bdr {a w : World} (h : Below a.heap.size a w) : Below a.heap.size a w.drew := h.drew
theorem bdn {a w : World} (h : Below a.heap.size a w) (n : Nat) : Below a.heap.size a (w.drewN n) := ⟨h.os, h.tape, h.output, h.size, h.block⟩
theorem Rows8.drew {w : World} {v : Value} {l : List (List UInt8)} (h : Rows8 w v l) : Rows8 w.drew v l := h.below (bdr (bre w))
theorem Bytes.drew {w : World} {v : Value} {l : List UInt8} (h : Bytes w v l) : Bytes w.drew v l := h.below (bdr (bre w))
theorem rangeAt_keep {W w' : World} {b o : Nat} {cs : List Value} (h : W.rangeAt b o cs) (hlt : b < W.heap.size) (hb : Below W.heap.size W w') : w'.rangeAt b o cs := rangeAt_below h hb hlt

/-! ### Bytes of one's own: read and written in place -/
theorem Own8.shape {e : TypeId} {base : Nat} {w : World} {v : Value} {l : List UInt8} (h : Own8 e base w v l) (hne : l ≠ []) :
    ∃ g c, v = .slice (some ⟨g, 0, none⟩) l.length c ∧ base ≤ g ∧ g < w.heap.size ∧ l.length ≤ c := by
  rcases h.2 with ⟨_, h0⟩ | ⟨g, cap, cur, rfl, hb, hg, hn, _⟩
  · exact absurd (List.length_eq_zero_iff.1 h0) hne
  · exact ⟨g, cap, rfl, hb, (Array.getElem?_eq_some_iff.1 hg).1, hn⟩

theorem Own8.cell {e : TypeId} {base : Nat} {w : World} {g n c : Nat} {l : List UInt8} (h : Own8 e base w (.slice (some ⟨g, 0, none⟩) n c) l) (j : Nat) (hj : j < l.length) :
    w.cell? ⟨g, j, none⟩ = some (B8 l[j]) ∧ w.frozen? ⟨g, j, none⟩ = false := by
  have hn : n = l.length := by
    rcases h.2 with ⟨h', _⟩ | ⟨g', cap', cur, h', _⟩
    · cases h'
    · cases h'; rfl
  subst hn
  refine ⟨?_, World.ownsRow.frozenAt h j⟩
  rw [World.ownsRow.cellAt h j (by omega), List.getElem?_map, List.getElem?_eq_getElem hj]
  rfl

theorem Own8.store {e : TypeId} {base : Nat} {w : World} {g n c : Nat} {l : List UInt8} (h : Own8 e base w (.slice (some ⟨g, 0, none⟩) n c) l) (j : Nat) (b : UInt8) :
    Own8 e base (w.setCell ⟨g, j, none⟩ (B8 b)) (.slice (some ⟨g, 0, none⟩) n c) (l.set j b) ∧ Below base w (w.setCell ⟨g, j, none⟩ (B8 b)) := by
  have hn : n = l.length ∧ base ≤ g := by
    rcases h.2 with ⟨h', _⟩ | ⟨g', cap', cur, h', hb, _⟩
    · cases h'
    · cases h'; exact ⟨rfl, hb⟩
  obtain ⟨rfl, hb⟩ := hn
  refine ⟨?_, (Below.refl _ _).setCell hb _⟩
  have := (World.ownsRow.stored h j (B8 b)).1
  unfold Own8
  rw [List.length_set, List.map_set]
  exact this

/-! ### Rows of bytes of one's own -/
theorem own_apart {w : World} {b1 b2 e1 e2 s1 s2 n1 n2 : Nat} {v1 v2 : Value} {x1 x2 : List Value} (h1 : w.ownsRow b1 e1 s1 v1 n1 x1) (h2 : w.ownsRow b2 e2 s2 v2 n2 x2) (hne : e1 ≠ e2) :
    v1.ownBlock = none ∨ v1.ownBlock ≠ v2.ownBlock := by
  rcases h1.2 with ⟨rfl, _⟩ | ⟨g1, c1, cur1, rfl, _, hg1, _⟩
  · left; rfl
  · right
    rcases h2.2 with ⟨rfl, _⟩ | ⟨g2, c2, cur2, rfl, _, hg2, _⟩
    · simp [Value.ownBlock]
    · intro h
      simp [Value.ownBlock] at h
      subst h
      rw [hg1] at hg2
      cases hg2
      exact hne rfl

def OwnRows (e e8 base : Nat) (w : World) (v : Value) (ls : List (List UInt8)) : Prop :=
  ∃ vs : List Value, vs.length = ls.length ∧ w.ownsRow base e 1 v vs.length vs ∧ ∀ (j : Nat) u l, vs[j]? = some u → ls[j]? = some l → Own8 e8 base w u l

theorem OwnRows.nil (e e8 base : Nat) (w : World) : OwnRows e e8 base w (.slice none 0 0) [] := ⟨[], rfl, World.ownsRow_nil _ _ _ _, fun j u l h => by simp at h⟩

theorem OwnRows.kept {e e8 base : Nat} {w w' : World} {v : Value} {ls : List (List UInt8)} (h : OwnRows e e8 base w v ls) (hB : Below w.heap.size w w') : OwnRows e e8 base w' v ls := by
  obtain ⟨vs, h1, h2, h3⟩ := h
  refine ⟨vs, h1, World.ownsRow.kept (row := none) h2 ⟨hB.os, hB.tape, hB.output, hB.size, fun k hk _ => hB.block k hk⟩ (by cases v.ownBlock <;> simp), fun j u l hu hl => (h3 j u l hu hl).kept (Nat.le_refl _) hB⟩

theorem OwnRows.rows {e e8 base : Nat} {w : World} {v : Value} {ls : List (List UInt8)} (h : OwnRows e e8 base w v ls) : Rows8 w v ls := by
  obtain ⟨vs, h1, h2, h3⟩ := h
  obtain ⟨a, c, rfl, hc, hm, hn, hl, _⟩ := ownsRow_lies h2
  rw [h1] at hc
  refine ⟨a, c, by rw [h1], Nat.le_trans hc hm, hc, hn, ?_⟩
  rcases hl with h0 | ⟨g, o, ha, hr⟩
  · subst h0
    exact .inl (List.length_eq_zero_iff.1 h1.symm)
  · refine .inr ⟨g, o, ha, fun j x hx => ?_⟩
    have hj : j < vs.length := by have := (List.getElem?_eq_some_iff.1 hx).1; omega
    exact ⟨vs[j], hr j _ (List.getElem?_eq_getElem hj), (h3 j _ x (List.getElem?_eq_getElem hj) hx).bytes⟩

theorem Own8.oneCell {e : TypeId} {base : Nat} {w : World} {v : Value} {l : List UInt8} (h : Own8 e base w v l) : v.oneCell' = true := by
  obtain ⟨a, c, rfl, _⟩ := h.bytes
  rfl

/-- 'own = append(own, u)', u bytes of one's own -/
theorem wpList_appRow {P : Program} {w : World} {ops : Array Oper} {rest : List Oper} {o : Oper} {a : Act} {Q : Exit → Act → World → Prop} (hgd : o.guard = none) (s x : Operand)
    (t e e8 : Nat) (he : e ≠ e8) (bytes : Nat) (T : RowTy P t e 1 bytes) (ho : o.op = .call { callee := .builtin .append, args := #[s, x], argTypes := #[t, t] })
    (base : Nat) (v : Value) (ls : List (List UInt8)) (hs : a.eval s = v) (hown : OwnRows e e8 base w v ls)
    (u : Value) (l : List UInt8) (hu : Own8 e8 base w u l) (n : Nat) (hn : n = w.heap.size) (hx : a.eval x = .slice (some ⟨n, 0, none⟩) 1 1) (hbytes : (ls.length + 1) * bytes ≤ 140737488355328) (hlen : ls.length + 1 ≤ maxLen) (hbase : base ≤ w.heap.size)
    (h : ∀ v' w', OwnRows e e8 base w' v' (ls ++ [l]) → Below base w w' → wpList P ops Q rest (a.put o.dst v') w') : wpList P ops Q (o :: rest) a (w.alloc (.cells #[u] e)) := by
  subst hn
  obtain ⟨vs, h1, h2, h3⟩ := hown.kept (bal (bre w) (.cells #[u] e))
  have hu2 := Own8.kept hu (Nat.le_refl _) (bal (bre w) (.cells #[u] e))
  have hBw : Below base w (w.alloc (.cells #[u] e)) := (Below.refl _ _).alloc hbase _
  refine wpList_app hgd s x t e 1 bytes T ho base v vs.length vs hs h2 _ 1 1 [u] hx rfl (lies_one _ _ _) (Nat.le_refl _) (fun h => by cases h) ?_ (by omega) (by rw [h1]; exact hbytes) (by simp; omega) ?_
  · intro u' hu'
    simp at hu'
    subst hu'
    exact hu.oneCell
  · intro v' w' g1 g2 g3
    refine h v' w' ⟨vs ++ [u], by simp [h1], by simpa using g1, ?_⟩ (hBw.trans g3)
    intro j u' l' hj hl'
    have hkeep : ∀ {u'' : Value} {l'' : List UInt8}, Own8 e8 base (w.alloc (.cells #[u] e)) u'' l'' → Own8 e8 base w' u'' l'' := fun hh =>
      World.ownsRow.kept hh g2 (own_apart hh h2 (fun e' => he e'.symm))
    by_cases hjl : j < vs.length
    · rw [List.getElem?_append_left hjl] at hj
      rw [List.getElem?_append_left (by omega)] at hl'
      exact hkeep (h3 j u' l' hj hl')
    · rw [List.getElem?_append_right (by omega)] at hj
      rw [List.getElem?_append_right (by omega), ← h1] at hl'
      have h0 : j - vs.length = 0 := by have := (List.getElem?_eq_some_iff.1 hj).1; simp at this; omega
      rw [h0] at hj hl'
      simp at hj hl'
      subst hj hl'
      exact hkeep hu2

/-! ### What comes in -/
theorem wf_u8' {n : Int} (h : (Lit.int .u8 n).wf = true) : 0 ≤ n ∧ n < 256 := by
  simp [Lit.wf, IntKind.min, IntKind.max, IntKind.signed, IntKind.bits] at h
  omega
theorem wf_u16' {n : Int} (h : (Lit.int .u16 n).wf = true) : 0 ≤ n ∧ n < 65536 := by
  simp [Lit.wf, IntKind.min, IntKind.max, IntKind.signed, IntKind.bits] at h
  omega
theorem wf_u32' {n : Int} (h : (Lit.int .u32 n).wf = true) : 0 ≤ n ∧ n < 4294967296 := by
  simp [Lit.wf, IntKind.min, IntKind.max, IntKind.signed, IntKind.bits] at h
  omega
theorem wf_u64' {n : Int} (h : (Lit.int .u64 n).wf = true) : 0 ≤ n ∧ n < 18446744073709551616 := by
  simp [Lit.wf, IntKind.min, IntKind.max, IntKind.signed, IntKind.bits] at h
  omega

theorem spot_none {w : World} {x : Addr} {v : Value} (h : w.cell? x = some v) : x = ⟨x.block, x.off, none⟩ := by
  cases x with
  | mk b o s =>
    cases s with
    | none => rfl
    | some s =>
      exfalso
      unfold World.cell? at h
      split at h
      · simp at h
      · cases h

/-- bytes that came in -/
theorem bytes_of_row {w : World} {a : Option Addr} {len cap : Nat} {zs : List Int}
    (h : (a = none ∧ len = 0 ∧ cap = 0 ∧ zs = []) ∨
      ∃ x, a = some x ∧ len ≤ cap ∧ cap ≤ maxLen ∧ zs.length = cap ∧ (∀ i, i < zs.length → w.cell? (x.add i) = some (.int .u8 (zs.getD i 0))) ∧ ∀ n ∈ zs, (Lit.int .u8 n).wf = true) :
    ∃ l : List UInt8, l.length = len ∧ Bytes w (.slice a len cap) l := by
  rcases h with ⟨rfl, rfl, rfl, rfl⟩ | ⟨x, rfl, h1, h2, h3, h4, h5⟩
  · exact ⟨[], rfl, none, 0, rfl, by simp, Nat.le_refl _, fun _ => rfl, .inl rfl⟩
  · have hlen : ((zs.take len).map fun n => UInt8.ofNat n.toNat).length = len := by rw [List.length_map, List.length_take]; omega
    refine ⟨(zs.take len).map fun n => UInt8.ofNat n.toNat, hlen, some x, cap, by rw [hlen], by omega, by omega, fun h => (by cases h), ?_⟩
    by_cases hz : len = 0
    · left; subst hz; rfl
    · right
      have h0 := h4 0 (by omega)
      have hx := spot_none (x := x) (by simpa [Addr.add] using h0)
      refine ⟨x.block, x.off, by rw [← hx], fun j b hb => ?_⟩
      have hj : j < len := by have := (List.getElem?_eq_some_iff.1 hb).1; omega
      have h6 := h4 j (by omega)
      rw [hx, Addr.add_mid] at h6
      refine ⟨_, h6, ?_⟩
      rw [List.getElem?_map, List.getElem?_take, if_pos hj, List.getElem?_eq_getElem (by omega)] at hb
      simp only [Option.map_some, Option.some.injEq] at hb
      subst hb
      have hw := wf_u8' (h5 _ (List.getElem_mem (show j < zs.length by omega)))
      have hg : zs.getD j 0 = zs[j] := by simp [List.getD, List.getElem?_eq_getElem (show j < zs.length by omega)]
      rw [hg]
      unfold B8
      rw [UInt8.toNat_ofNat_of_lt' (by simp; omega)]
      congr 1
      omega

end Go.Proofs.YtljdphpbalioaaaGreatDoor
/- What else may turn: an append that says where its row lies; a frame that names the blocks that may turn. No program is in sight. -/
namespace Go.Proofs.YtljdphpbalioaaaGreatDoor
open Go.RowKit

/-- of what was there only the blocks of S may have turned -/
structure Only (w w' : World) (S : Nat → Prop) : Prop where
  os : w'.os = w.os
  tape : w'.tape = w.tape
  output : w'.output = w.output
  size : w.heap.size ≤ w'.heap.size
  block : ∀ k, k < w.heap.size → ¬ S k → w'.heap[k]? = w.heap[k]?

theorem Only.refl (w : World) (S : Nat → Prop) : Only w w S := ⟨rfl, rfl, rfl, Nat.le_refl _, fun _ _ _ => rfl⟩
theorem Only.trans {a b c : World} {S T : Nat → Prop} (h : Only a b S) (k : Only b c T) (hs : ∀ i, i < a.heap.size → T i → S i) : Only a c S :=
  ⟨k.os.trans h.os, k.tape.trans h.tape, k.output.trans h.output, Nat.le_trans h.size k.size, fun i hi hn =>
    (k.block i (Nat.lt_of_lt_of_le hi h.size) (fun ht => hn (hs i hi ht))).trans (h.block i hi hn)⟩
theorem Only.mono {a b : World} {S T : Nat → Prop} (h : Only a b S) (hs : ∀ i, i < a.heap.size → S i → T i) : Only a b T :=
  ⟨h.os, h.tape, h.output, h.size, fun i hi hn => h.block i hi (fun hs' => hn (hs i hi hs'))⟩
theorem Only.of_below {a b : World} (h : Below a.heap.size a b) (S : Nat → Prop) : Only a b S := ⟨h.os, h.tape, h.output, h.size, fun i hi _ => h.block i hi⟩
theorem Only.below {a b : World} {S : Nat → Prop} (h : Only a b S) (B : Nat) (hB : B ≤ a.heap.size) (hs : ∀ i, i < B → ¬ S i) : Below B a b :=
  ⟨h.os, h.tape, h.output, h.size, fun i hi => h.block i (Nat.lt_of_lt_of_le hi hB) (hs i hi)⟩
theorem Only.of_grown {a b : World} {row : Option Nat} (h : a.grownBy b row) : Only a b (fun k => row = some k) :=
  ⟨h.os, h.tape, h.output, h.size, fun i hi hn => h.block i hi (fun e => hn e.symm)⟩
theorem Only.setCell (w : World) (p : Addr) (u : Value) : Only w (w.setCell p u) (fun k => k = p.block) :=
  ⟨rfl, rfl, rfl, by simp [World.setCell], fun k _ hn => Below.heap_setCell _ _ _ _ hn⟩
theorem Only.drew {a b : World} {S : Nat → Prop} (h : Only a b S) : Only a b.drew S := ⟨h.os, h.tape, h.output, h.size, h.block⟩
theorem Only.drewN {a b : World} {S : Nat → Prop} (h : Only a b S) (n : Nat) : Only a (b.drewN n) S := ⟨h.os, h.tape, h.output, h.size, h.block⟩

/-- where a row of one's own lies behind an append: where it lay, or in a new block -/
def Stays (w : World) (v v' : Value) : Prop := v'.ownBlock = v.ownBlock ∨ ∀ k, v'.ownBlock = some k → w.heap.size ≤ k

theorem run_append_own' {P : Program} {w : World} (base : Nat) (t ty e : TypeId) (i : TypeInfo) (z : Value) (size bytes : Nat) (ht : P.underlying t = some (.slice e)) (hi : P.info? e = some i) (hz : i.zero = some z)
    (hsize : i.size = size) (hby : i.bytes = bytes) (hzs : z.cells.size = size) (hsz : 0 < size)
    (v : Value) (n : Nat) (xs : List Value) (hown : w.ownsRow base e size v n xs)
    (a : Addr) (m c : Nat) (news : List Value) (hl : news.length = m * size) (hnews : ∀ j u, news[j]? = some u → w.cell? (a.add j) = some u) (h1 : ∀ u ∈ news, u.oneCell' = true)
    (h63 : n + m ≤ maxLen) (hbytes : (n + m) * bytes ≤ 140737488355328) (hbase : base ≤ w.heap.size) :
    ∃ v' w', (Builtin.append_ #[t, t] ty #[v, .slice (some a) m c]).run P w = .ok v' w' ∧ w'.ownsRow base e size v' (n + m) (xs ++ news) ∧ w.grownBy w' v.ownBlock ∧ Stays w v v' := by
  rcases hown.2 with ⟨rfl, rfl⟩ | ⟨g, cap, cur, rfl, hb, hg, hn, hc, hs, hx⟩
  · have hxs : xs = [] := by simpa using hown.1
    subst hxs
    obtain ⟨v', w', hr, h2, h3, h4⟩ := run_append_own (P := P) w w.heap.size t ty e i z size bytes ht hi hz hsize hby hzs hsz (.slice none 0 0) 0 [] (World.ownsRow_nil _ _ _ _) a m c news hl hnews h1 h63 hbytes (Nat.le_refl _)
    exact ⟨v', w', hr, ownsRow_base h2 hbase, h3, .inr fun k hk => (h2.lt k hk).1⟩
  · by_cases hroom : n + m ≤ cap
    · obtain ⟨w', hr, h2, h3⟩ := run_append_fits (P := P) (w := w) base t ty e i size ht hi hsize g n cap xs hown a m c news hl hnews h1 hroom
      exact ⟨_, w', hr, h2, h3, .inl rfl⟩
    · have holds : ∀ j u, xs[j]? = some u → w.cell? ((⟨g, 0, none⟩ : Addr).add j) = some u := hown.cells rfl
      obtain ⟨v', w', hr, h2, h3⟩ := run_append_arg_grows (P := P) (w := w) t ty e i z size bytes ht hi hz hsize hby hzs hsz ⟨g, 0, none⟩ n cap xs hown.1 holds a m c news hl hnews (by omega) h63 hbytes
      exact ⟨v', w', hr, ownsRow_base h2 hbase, ⟨h3.os, h3.tape, h3.output, h3.size, fun k hk _ => h3.block k hk (by simp)⟩, .inr fun k hk => (h2.lt k hk).1⟩

/-- an append of bytes to bytes of one's own, and where they lie -/
theorem wpList_app8' {P : Program} {w : World} {ops : Array Oper} {rest : List Oper} {o : Oper} {a : Act} {Q : Exit → Act → World → Prop} (hgd : o.guard = none) (s x : Operand)
    (t e : Nat) (T : RowTy P t e 1 1) (ho : o.op = .call { callee := .builtin .append, args := #[s, x], argTypes := #[t, t] })
    (base : Nat) (v : Value) (l : List UInt8) (hs : a.eval s = v) (hown : Own8 e base w v l)
    (u : Value) (m : List UInt8) (hx : a.eval x = u) (hm : Bytes w u m) (hbytes : l.length + m.length ≤ 140737488355328) (hbase : base ≤ w.heap.size)
    (h : ∀ v' w', Own8 e base w' v' (l ++ m) → w.grownBy w' v.ownBlock → Stays w v v' → wpList P ops Q rest (a.put o.dst v') w') : wpList P ops Q (o :: rest) a w := by
  obtain ⟨ad, c, rfl, hm0, hmc, hn, hl⟩ := hm.lies
  obtain ⟨i, z, hi, hz, hsz, hby, hzs⟩ := T.ex
  cases ad with
  | none =>
    have hc0 := hn rfl
    subst hc0
    have hm0' : m = [] := List.length_eq_zero_iff.1 (by omega)
    subst hm0'
    refine wpList_append_own_none hgd s x t ho base e i 1 T.ht hi v l.length (l.map B8) hs hown hx ?_
    exact h v w (by simpa using hown) ⟨rfl, rfl, rfl, Nat.le_refl _, fun _ _ _ => rfl⟩ (.inl rfl)
  | some ad =>
    have hnews : ∀ j u, (m.map B8)[j]? = some u → w.cell? (ad.add j) = some u := by
      intro j u hu
      rcases hl with h0 | ⟨g, o', ha, hr⟩
      · rw [h0] at hu; simp at hu
      · cases ha
        rw [Addr.add_mid]
        exact hr j u hu
    obtain ⟨v', w', hr, h2, h3, h4⟩ := run_append_own' (P := P) (w := w) base t o.type e i z 1 1 T.ht hi hz hsz hby hzs T.pos v l.length (l.map B8) hown ad m.length c (m.map B8) (by simp) hnews (B8_one m) (by unfold maxLen; omega) (by omega) hbase
    refine wpList_yields hgd v' w' ?_ (h v' w' (Own8.app h2) h3 h4)
    unfold execOp
    simp only [ho, resolve, invoke, builtin, Sem.run_bind, Sem.run_pure, Result.andThen_ok, List.map_toArray, List.map_cons, List.map_nil, hs, hx, hr]

theorem Own8.isSlice {e : TypeId} {base : Nat} {w : World} {v : Value} {l : List UInt8} (h : Own8 e base w v l) : ∃ a n c, v = .slice a n c := by
  obtain ⟨a, c, rfl, _⟩ := h.bytes
  exact ⟨_, _, _, rfl⟩

/-- '[]byte(s)' -/
theorem run_text {P : Program} (w : World) (src dst e : TypeId) (s : ByteArray) (hs : P.underlying src = some .string) (hd : P.underlying dst = some (.slice e)) (he : P.underlying e = some (.int .u8)) (hsz : s.size ≤ maxLen) :
    ∃ v' w', (convert src dst (.string s)).run P w = .ok v' w' ∧ Bytes w' v' s.data.toList ∧ Below w.heap.size w w' := by
  refine ⟨_, _, run_bytes_of_string w src dst e s hs hd he, ?_, (bdr (bre w)).alloc (Nat.le_refl _) _⟩
  have hlen : s.data.toList.length = s.size := Array.length_toList
  have hcap : s.size ≤ grownCap w s.size 0 e := grownCap_ge w s.size 0 e
  refine ⟨_, _, by rw [hlen], by rw [hlen]; exact hsz, by rw [hlen]; exact hcap, fun h => (by cases h), .inr ⟨_, _, rfl, fun j x hx => ⟨B8 x, ?_, rfl⟩⟩⟩
  have hj : j < s.data.size := by have := (List.getElem?_eq_some_iff.1 hx).1; simpa using this
  rw [Nat.zero_add, cell_of_row _ w.heap.size j _ e _ (heap_alloc_new w.drew _)]
  unfold bytesRow
  rw [Array.getElem?_append_left (by simpa using hj), Array.getElem?_map]
  rw [Array.getElem?_toList] at hx
  rw [hx]
  rfl

theorem wpList_text {P : Program} {w : World} {ops : Array Oper} {rest : List Oper} {o : Oper} {a : Act} {Q : Exit → Act → World → Prop} (hgd : o.guard = none) (src dst e : TypeId) (x : Operand) (ho : o.op = .convert src dst x)
    (s : ByteArray) (hx : a.eval x = .string s) (hs : P.underlying src = some .string) (hd : P.underlying dst = some (.slice e)) (he : P.underlying e = some (.int .u8)) (hsz : s.size ≤ maxLen)
    (h : ∀ v' w', Bytes w' v' s.data.toList → Below w.heap.size w w' → wpList P ops Q rest (a.put o.dst v') w') : wpList P ops Q (o :: rest) a w := by
  obtain ⟨v', w', hr, h1, h2⟩ := run_text (P := P) w src dst e s hs hd he hsz
  refine wpList_yields hgd v' w' ?_ (h v' w' h1 h2)
  unfold execOp
  simp only [ho, hx, Sem.run_bind, hr, Result.andThen_ok]
  rfl

end Go.Proofs.YtljdphpbalioaaaGreatDoor
/- Rows of long elements of one's own: stored into, read from; objects by their footprints. No program is in sight. -/
namespace Go.Proofs.YtljdphpbalioaaaGreatDoor
open Go.RowKit

theorem cell_row {w : World} {g i T : Nat} {cs : Array Value} {fr : Nat × Nat} (h : w.heap[g]? = some (.cells cs T fr)) : w.cell? ⟨g, i, none⟩ = cs[i]? := by
  simp [World.cell?, h]

theorem Bytes.only {w w' : World} {S : Nat → Prop} {u : Value} {l : List UInt8} (h : Bytes w u l) (ho : Only w w' S) (hs : ∀ g o n c, l ≠ [] → u = .slice (some ⟨g, o, none⟩) n c → ¬ S g) : Bytes w' u l := by
  obtain ⟨a, c, rfl, h1, h2, h3, h4⟩ := h
  refine ⟨a, c, rfl, h1, h2, h3, ?_⟩
  by_cases hl : l = []
  · exact .inl hl
  · rcases h4 with h4 | ⟨g, o, rfl, h4⟩
    · exact .inl h4
    · refine .inr ⟨g, o, rfl, fun j x hx => ?_⟩
      obtain ⟨y, hy, hr⟩ := h4 j x hx
      exact ⟨y, (World.cell?_of_block (a := ⟨g, o + j, none⟩) (ho.block g (block_lt_of_cell hy) (hs _ _ _ _ hl rfl))).trans hy, hr⟩

theorem flat_get' {α : Type} (cs : α → List Value) (n : Nat) (l : List α) (hn : ∀ x ∈ l, (cs x).length = n) : ∀ (j i : Nat) (x : α), l[j]? = some x → i < n → (l.flatMap cs)[j * n + i]? = (cs x)[i]? := by
  induction l with
  | nil => intro j i x h _; simp at h
  | cons y l ih =>
    intro j i x h hi
    have hy := hn y (by simp)
    rw [List.flatMap_cons]
    cases j with
    | zero =>
      simp at h
      subst h
      rw [List.getElem?_append_left (by rw [hy]; omega)]
      simp
    | succ j =>
      rw [List.getElem?_append_right (by rw [hy, Nat.succ_mul]; omega), hy, show (j + 1) * n + i - n = j * n + i by rw [Nat.succ_mul]; omega]
      exact ih (fun x hx => hn x (by simp [hx])) j i x (by simpa using h) hi

theorem flat_length' {α : Type} (cs : α → List Value) (n : Nat) (l : List α) (hn : ∀ x ∈ l, (cs x).length = n) : (l.flatMap cs).length = l.length * n := by
  induction l with
  | nil => simp
  | cons y l ih => rw [List.flatMap_cons, List.length_append, hn y (by simp), ih (fun x hx => hn x (by simp [hx])), List.length_cons, Nat.succ_mul]; omega

/-- values set one by one -/
def setAll (xs : List Value) : Nat → List Value → List Value
  | _, [] => xs
  | o, v :: r => setAll (xs.set o v) (o + 1) r

theorem setAll_length (cs : List Value) : ∀ (xs : List Value) (o : Nat), (setAll xs o cs).length = xs.length := by
  induction cs with
  | nil => intro xs o; rfl
  | cons v r ih => intro xs o; rw [setAll, ih, List.length_set]

theorem setAll_get (cs : List Value) : ∀ (xs : List Value) (o k : Nat), o + cs.length ≤ xs.length → (setAll xs o cs)[k]? = if o ≤ k ∧ k < o + cs.length then cs[k - o]? else xs[k]? := by
  induction cs with
  | nil => intro xs o k _; rw [setAll, if_neg (by simp only [List.length_nil]; omega)]
  | cons v r ih =>
    intro xs o k h
    rw [List.length_cons] at h
    rw [setAll, ih _ _ _ (by rw [List.length_set]; omega), List.length_cons]
    by_cases h1 : o + 1 ≤ k ∧ k < o + 1 + r.length
    · rw [if_pos h1, if_pos (by omega), show k - o = (k - (o + 1)) + 1 by omega, List.getElem?_cons_succ]
    · rw [if_neg h1]
      by_cases h2 : k = o
      · subst h2
        rw [if_pos (by omega), Nat.sub_self, List.getElem?_cons_zero, List.getElem?_set_self (by omega)]
      · rw [if_neg (by omega), List.getElem?_set_ne (by omega)]

theorem setAll_flat {α : Type} (cs : α → List Value) (n : Nat) (l : List α) (hn : ∀ x ∈ l, (cs x).length = n) (i : Nat) (y : α) (hi : i < l.length) (hy : (cs y).length = n) :
    setAll (l.flatMap cs) (i * n) (cs y) = (l.set i y).flatMap cs := by
  have hn2 : ∀ x ∈ l.set i y, (cs x).length = n := fun x hx => by
    rcases List.mem_or_eq_of_mem_set hx with h | h
    · exact hn x h
    · rw [h]; exact hy
  have hlen := flat_length' cs n l hn
  have hlen2 := flat_length' cs n (l.set i y) hn2
  rw [List.length_set] at hlen2
  have hin : i * n + n ≤ l.length * n := by rw [← Nat.succ_mul]; exact Nat.mul_le_mul_right n hi
  apply List.ext_getElem?
  intro k
  rw [setAll_get _ _ _ _ (by rw [hlen, hy]; exact hin), hy]
  by_cases hk : k < l.length * n
  · have hn0 : 0 < n := by
      rcases Nat.eq_zero_or_pos n with h | h
      · subst h; simp at hk
      · exact h
    have hdm := Nat.div_add_mod k n
    have hmod := Nat.mod_lt k hn0
    have hdiv : k / n < l.length := (Nat.div_lt_iff_lt_mul hn0).2 hk
    have hkk : k = k / n * n + k % n := by rw [Nat.mul_comm]; omega
    generalize k / n = j at *
    generalize k % n = m at *
    subst hkk
    obtain ⟨x, hx⟩ : ∃ x, l[j]? = some x := ⟨_, List.getElem?_eq_getElem hdiv⟩
    by_cases hji : j = i
    · subst hji
      rw [if_pos (by omega), flat_get' cs n _ hn2 j m y (by rw [List.getElem?_set_self hi]) hmod, Nat.add_sub_cancel_left]
    · rw [flat_get' cs n _ hn2 j m x (by rw [List.getElem?_set_ne (fun h => hji h.symm)]; exact hx) hmod, flat_get' cs n _ hn j m x hx hmod, if_neg]
      rintro ⟨h1, h2⟩
      rcases Nat.lt_or_gt_of_ne hji with h | h
      · have : (j + 1) * n ≤ i * n := Nat.mul_le_mul_right n h
        rw [Nat.succ_mul] at this; omega
      · have : (i + 1) * n ≤ j * n := Nat.mul_le_mul_right n h
        rw [Nat.succ_mul] at this; omega
  · rw [if_neg (by omega), List.getElem?_eq_none (by omega), List.getElem?_eq_none (by omega)]

theorem own_setCells {base e size n g c : Nat} (cs : List Value) : ∀ {w : World} {xs : List Value} (o : Nat), w.ownsRow base e size (.slice (some ⟨g, 0, none⟩) n c) n xs →
    (w.setCells g o cs).ownsRow base e size (.slice (some ⟨g, 0, none⟩) n c) n (setAll xs o cs) := by
  induction cs with
  | nil => intro w xs o h; exact h
  | cons v r ih => intro w xs o h; exact ih (o + 1) (World.ownsRow.stored h o v).1

theorem only_setCells (g : Nat) (cs : List Value) : ∀ (w : World) (o : Nat), Only w (w.setCells g o cs) (fun k => k = g) := by
  induction cs with
  | nil => intro w o; exact Only.refl _ _
  | cons v r ih => intro w o; exact (Only.setCell w ⟨g, o, none⟩ v).trans (ih _ _) fun i _ h => h

/-- the element at i of a row of one's own -/
theorem own_range {α : Type} {cs : α → List Value} {n : Nat} {w : World} {base e c g : Nat} {l : List α} (hn : ∀ x ∈ l, (cs x).length = n)
    (h : w.ownsRow base e n (.slice (some ⟨g, 0, none⟩) l.length c) l.length (l.flatMap cs)) (i : Nat) (x : α) (hx : l[i]? = some x) : w.rangeAt g (i * n) (cs x) := by
  intro j v hv
  have hj : j < n := by have := (List.getElem?_eq_some_iff.1 hv).1; rw [hn x (List.mem_of_getElem? hx)] at this; exact this
  have hi : i < l.length := (List.getElem?_eq_some_iff.1 hx).1
  have hin : i * n + n ≤ l.length * n := by rw [← Nat.succ_mul]; exact Nat.mul_le_mul_right n hi
  rw [World.ownsRow.cellAt h (i * n + j) (by omega), flat_get' cs n l hn i j x hx hj]
  exact hv

theorem own_there {w : World} {base e size c g n : Nat} {xs : List Value} (h : w.ownsRow base e size (.slice (some ⟨g, 0, none⟩) n c) n xs) (o m : Nat) (hm : o + m ≤ n * size) : w.there g o m := by
  intro j hj
  have hl := h.1
  refine ⟨?_, World.ownsRow.frozenAt h _⟩
  rw [World.ownsRow.cellAt h (o + j) (by omega), List.getElem?_eq_getElem (by omega)]
  rfl

theorem own_only {e : TypeId} {base size n : Nat} {w w' : World} {S : Nat → Prop} {v : Value} {xs : List Value} (h : w.ownsRow base e size v n xs) (ho : Only w w' S) (hs : ∀ k, v.ownBlock = some k → ¬ S k) : w'.ownsRow base e size v n xs := by
  refine ⟨h.1, ?_⟩
  rcases h.2 with h2 | ⟨g, cap, cur, h1, hb, hg, hr⟩
  · exact .inl h2
  · exact .inr ⟨g, cap, cur, h1, hb, (ho.block g (Array.getElem?_eq_some_iff.1 hg).1 (hs g (by rw [h1]; rfl))).trans hg, hr⟩

theorem own_block {e : TypeId} {base size n : Nat} {w : World} {v : Value} {xs : List Value} (h : w.ownsRow base e size v n xs) {g : Nat} (hg : v.ownBlock = some g) : ∃ cur, w.heap[g]? = some (.cells cur e (0, 0)) := by
  rcases h.2 with ⟨rfl, _⟩ | ⟨g', c, cur, rfl, _, hg', _⟩
  · cases hg
  · simp [Value.ownBlock] at hg
    subst hg
    exact ⟨cur, hg'⟩

theorem own_ne {e base size n T : Nat} {w : World} {v : Value} {xs : List Value} (h : w.ownsRow base e size v n xs) {g : Nat} {cs : Array Value} {fr : Nat × Nat} (hg : w.heap[g]? = some (.cells cs T fr)) (hT : T ≠ e) : v.ownBlock ≠ some g := by
  intro hb
  obtain ⟨cur, hc⟩ := own_block h hb
  rw [hg] at hc
  cases hc
  exact hT rfl

/-- what an object's doing may turn, and where it lies then -/
structure Moved (w w' : World) (F F' : Nat → Prop) : Prop where
  only : Only w w' F
  fresh : ∀ k, F' k → F k ∨ w.heap.size ≤ k

theorem Moved.refl (w : World) (F : Nat → Prop) : Moved w w F F := ⟨Only.refl _ _, fun _ h => .inl h⟩
theorem Moved.trans {a b c : World} {F G H : Nat → Prop} (h : Moved a b F G) (k : Moved b c G H) : Moved a c F H := by
  refine ⟨h.only.trans k.only (fun i hi hg => ?_), fun i hi => ?_⟩
  · rcases h.fresh i hg with h | h
    · exact h
    · omega
  · rcases k.fresh i hi with h1 | h1
    · exact h.fresh i h1
    · exact .inr (Nat.le_trans h.only.size h1)
theorem Moved.of_below {w w' : World} (F : Nat → Prop) (h : Below w.heap.size w w') : Moved w w' F F := ⟨Only.of_below h F, fun _ h => .inl h⟩
theorem Moved.below {w w' : World} {F F' : Nat → Prop} {B : Nat} (h : Moved w w' F F') (hB : B ≤ w.heap.size) (hF : ∀ k, F k → B ≤ k) : Below B w w' := h.only.below B hB fun i hi hf => by have := hF i hf; omega
theorem Moved.ge {w w' : World} {F F' : Nat → Prop} {B : Nat} (h : Moved w w' F F') (hB : B ≤ w.heap.size) (hF : ∀ k, F k → B ≤ k) : ∀ k, F' k → B ≤ k := fun k hk => by
  rcases h.fresh k hk with h | h
  · exact hF k h
  · omega
end Go.Proofs.YtljdphpbalioaaaGreatDoor
/- A region that draws its order, whose head only reads: a long load in the head. No program is in sight. -/
namespace Go.Proofs.YtljdphpbalioaaaGreatDoor
open Go.RowKit

theorem wpStill_load_mid {P : Program} {ops : Array Oper} {rest : List Oper} {op : Oper} {a : Act} {w : World} {Q : Act → Prop} (hgd : op.guard = none) (ty : TypeId) (x : Operand) (ho : op.op = .load ty x)
    (b o : Nat) (hx : a.eval x = .pointer (some ⟨b, o, none⟩)) (cs : List Value) (d : TypeDesc) (hc : w.rangeAt b o cs)
    (hu : P.underlying ty = some d) (hd : d.isRow = true) (hi : (P.info? ty).map (·.size) = some cs.length)
    (h : wpStill P ops w Q rest (a.put op.dst (.agg cs.toArray))) : wpStill P ops w Q (op :: rest) a := by
  refine wpStill_step fun K hK => ?_
  have hw : Region.wanted op (yielded ops a.tmps) = true := by simp [Region.wanted, hgd]
  rw [if_pos hw]
  unfold Oper.still execOp
  simp only [ho, hx, Instr.loadAt, Instr.sureAddr, Sem.run_bind, Sem.run_pure, Result.andThen_ok, run_loadVar_mid w b o ty cs d hc hu hd hi]
  exact ⟨rfl, hK _ h⟩

/-- '[]T{x}', x a long row -/
theorem wpList_buildSlice_row {P : Program} {w : World} {ops : Array Oper} {rest : List Oper} {o : Oper} {a : Act} {Q : Exit → Act → World → Prop} (hgd : o.guard = none) (t e size bytes : Nat) (T : RowTy P t e size bytes) (x : Operand)
    (ho : o.op = .buildSlice t 1 #[(0, x)]) (cs : Array Value) (hx : a.eval x = .agg cs) (hs : cs.size = size) (hsmall : size ≤ 16777216)
    (h : wpList P ops Q rest (a.put o.dst (.slice (some ⟨w.heap.size, 0, none⟩) 1 1)) (w.alloc (.cells cs e))) : wpList P ops Q (o :: rest) a w := by
  obtain ⟨i, z, hi, hz, hsz, hby, hzs⟩ := T.ex
  have hpos := T.pos
  subst hsz
  refine wpList_buildSlice hgd t e 1 #[(0, x)] ho cs i z T.ht hi hz (by omega) (by omega) ?_ h
  have := Great.fill_whole (s := i.size) hpos [.agg cs] ((Array.range (1 * i.size)).map (z.cells[· % z.cells.size]!)) (by simp only [List.mem_singleton, forall_eq]; exact hs) (by simp)
  simp only [List.zipIdx_cons, List.zipIdx_nil, List.map_cons, List.map_nil, List.flatMap_cons, List.flatMap_nil, List.append_nil, show (Value.agg cs).cells = cs from rfl] at this
  simpa [hx] using this

/-- '[]T{x}', x a long row -/
theorem wp_buildSlice_row {P : Program} {w : World} {o : Oper} {a : Act} {K : Act → World → Prop} {Q : Exit → Act → World → Prop} (t e size bytes : Nat) (T : RowTy P t e size bytes) (x : Operand)
    (ho : o.op = .buildSlice t 1 #[(0, x)]) (cs : Array Value) (hx : a.eval x = .agg cs) (hs : cs.size = size) (hsmall : size ≤ 16777216)
    (h : K (a.put o.dst (.slice (some ⟨w.heap.size, 0, none⟩) 1 1)) (w.alloc (.cells cs e))) : o.wp P a w K Q := by
  obtain ⟨i, z, hi, hz, hsz, hby, hzs⟩ := T.ex
  have hpos := T.pos
  subst hsz
  refine wp_buildSlice t e 1 #[(0, x)] ho cs i z T.ht hi hz (by omega) (by omega) ?_ h
  have := Great.fill_whole (s := i.size) hpos [.agg cs] ((Array.range (1 * i.size)).map (z.cells[· % z.cells.size]!)) (by simp only [List.mem_singleton, forall_eq]; exact hs) (by simp)
  simp only [List.zipIdx_cons, List.zipIdx_nil, List.map_cons, List.map_nil, List.flatMap_cons, List.flatMap_nil, List.append_nil, show (Value.agg cs).cells = cs from rfl] at this
  simpa [hx] using this

/-- an append to a row of one's own, and where it lies then -/
theorem wpList_app' {P : Program} {w : World} {ops : Array Oper} {rest : List Oper} {o : Oper} {a : Act} {Q : Exit → Act → World → Prop} (hgd : o.guard = none) (s x : Operand)
    (t e size bytes : Nat) (T : RowTy P t e size bytes) (ho : o.op = .call { callee := .builtin .append, args := #[s, x], argTypes := #[t, t] })
    (base : Nat) (v : Value) (n : Nat) (xs : List Value) (hs : a.eval s = v) (hown : w.ownsRow base e size v n xs)
    (ad : Addr) (m c : Nat) (news : List Value) (hx : a.eval x = .slice (some ad) m c) (hl : news.length = m * size) (hnews : ∀ j u, news[j]? = some u → w.cell? (ad.add j) = some u) (h1 : ∀ u ∈ news, u.oneCell' = true)
    (h63 : n + m ≤ maxLen) (hbytes : (n + m) * bytes ≤ 140737488355328) (hbase : base ≤ w.heap.size)
    (h : ∀ v' w', w'.ownsRow base e size v' (n + m) (xs ++ news) → w.grownBy w' v.ownBlock → Stays w v v' → wpList P ops Q rest (a.put o.dst v') w') : wpList P ops Q (o :: rest) a w := by
  obtain ⟨i, z, hi, hz, hsz, hby, hzs⟩ := T.ex
  obtain ⟨v', w', hr, h2, h3, h4⟩ := run_append_own' (P := P) (w := w) base t o.type e i z size bytes T.ht hi hz hsz hby hzs T.pos v n xs hown ad m c news hl hnews h1 h63 hbytes hbase
  refine wpList_yields hgd v' w' ?_ (h v' w' h2 h3 h4)
  unfold execOp
  simp only [ho, resolve, invoke, builtin, Sem.run_bind, Sem.run_pure, Result.andThen_ok, List.map_toArray, List.map_cons, List.map_nil, hs, hx, hr]

theorem wpList_built {P : Program} {w : World} {ops : Array Oper} {rest : List Oper} {o : Oper} {a : Act} {Q : Exit → Act → World → Prop} (hgd : o.guard = none) (t : TypeId) (parts : Array (Nat × Operand)) (ho : o.op = .build t parts)
    (vals : List (Nat × Value)) (hv : (parts.map fun (i, x) => (i, a.eval x)).toList = vals) (cells : Array Value) (hb : P.built t vals = some cells)
    (h : wpList P ops Q rest (a.put o.dst (.agg cells)) w) : wpList P ops Q (o :: rest) a w :=
  wpList_build hgd t parts ho (by rw [hv, hb]; rfl) (by rw [hv, hb]; exact h)
end Go.Proofs.YtljdphpbalioaaaGreatDoor
/- A region that draws its order, its last step apart: what is read ahead of it may be taken first, whatever it stores. No program is in sight. -/
namespace Go.Proofs.YtljdphpbalioaaaGreatDoor
open Go.RowKit

section
variable {P : Program} {ops : Array Oper} {Q : Exit → Act → World → Prop} {md : Region.Mode} {S : World → Prop}

/-- whatever order is picked from here on, and S holds as long as number z has not come up -/
def AnyZ (P : Program) (md : Region.Mode) (ops : Array Oper) (Q : Exit → Act → World → Prop) (S : World → Prop) (z : Nat) : Nat → Array Bool → Act → World → Prop
  | 0, listed, a, w => Region.ready md ops listed = [] ∧ Q .normal a w
  | fuel + 1, listed, a, w =>
    (Region.ready md ops listed = [] → Q .normal a w) ∧
    ∀ i ∈ Region.ready md ops listed, wpOp P ops Q i (fun a' w' => ((listed.setIfInBounds i true).getD z true = false → S w') ∧ AnyZ P md ops Q S z fuel (listed.setIfInBounds i true) a' w') a w

theorem any_of_anyZ {z : Nat} : ∀ (fuel : Nat) (listed : Array Bool) (a : Act) (w : World), AnyZ P md ops Q S z fuel listed a w → wpAny P md ops Q fuel listed a w
  | 0, _, _, _, h => h
  | fuel + 1, _, _, _, h => ⟨h.1, fun i hi => wpOp_mono (fun a' w' h' => any_of_anyZ fuel _ a' w' h'.2) (h.2 i hi)⟩

/-- whatever has come up, what it waits for has come up -/
def Closed (md : Region.Mode) (ops : Array Oper) (listed : Array Bool) : Prop := ∀ j i, Region.waitsFor md ops j i = true → listed.getD j false = true → listed.getD i false = true

/-- number z waits for number i, perhaps through others -/
def Blocks (md : Region.Mode) (ops : Array Oper) : Nat → Nat → Nat → Bool
  | 0, z, i => Region.waitsFor md ops z i
  | n + 1, z, i => Region.waitsFor md ops z i || (List.range ops.size).any fun k => Region.waitsFor md ops z k && Blocks md ops n k i

theorem blocks_listed {listed : Array Bool} (hc : Closed md ops listed) : ∀ (n z i : Nat), Blocks md ops n z i = true → listed.getD z false = true → listed.getD i false = true
  | 0, z, i, h, hz => hc z i h hz
  | n + 1, z, i, h, hz => by
    simp only [Blocks, Bool.or_eq_true, List.any_eq_true, Bool.and_eq_true] at h
    rcases h with h | ⟨k, _, h1, h2⟩
    · exact hc z i h hz
    · exact blocks_listed hc n k i h2 (hc z k h1 hz)

theorem closed_start (n : Nat) : Closed md ops (Array.replicate n false) := fun j i _ h => by rw [getD_replicate_false] at h; cases h

theorem ready_listed {listed : Array Bool} {j k : Nat} (hj : j ∈ Region.ready md ops listed) (hw : Region.waitsFor md ops j k = true) : listed.getD k false = true := by
  obtain ⟨_, oj, hoj, hall⟩ := mem_ready.1 hj
  obtain ⟨oz, hoz, e, he, hb, hon⟩ := Region.waitsFor_spec hw
  rw [hoj] at hoz
  cases hoz
  have := hall e he hb
  rw [hon] at this
  exact this

theorem ready_un {listed : Array Bool} {i : Nat} (hi : i ∈ Region.ready md ops listed) : listed.getD i false = false := getD_both (mem_ready.1 hi).1

theorem Closed.set {listed : Array Bool} {j : Nat} (hc : Closed md ops listed) (hj : j ∈ Region.ready md ops listed) : Closed md ops (listed.setIfInBounds j true) := by
  intro a b hab ha
  have keep : ∀ c, listed.getD c false = true → (listed.setIfInBounds j true).getD c false = true := fun c h => by
    by_cases hjc : j = c
    · subst hjc; rw [ready_un hj] at h; cases h
    · rw [getD_set_ne false hjc]; exact h
  by_cases hja : j = a
  · subst hja; exact keep b (ready_listed hj hab)
  · rw [getD_set_ne false hja] at ha
    exact keep b (hc a b hab ha)

theorem blocks_not_ready {listed : Array Bool} (hc : Closed md ops listed) {n z i : Nat} (hb : Blocks md ops n z i = true) (hi : listed.getD i false = false) : z ∉ Region.ready md ops listed := by
  intro hz
  have key : listed.getD i false = true := by
    cases n with
    | zero => exact ready_listed hz hb
    | succ n =>
      simp only [Blocks, Bool.or_eq_true, List.any_eq_true, Bool.and_eq_true] at hb
      rcases hb with h | ⟨k, _, h1, h2⟩
      · exact ready_listed hz h
      · exact blocks_listed hc n k i h2 (ready_listed hz h1)
  rw [hi] at key
  cases key

theorem anyZ_first {n i z : Nat} (hiz : i ≠ z) {oi : Oper} {v : Value} {T : World → Prop} (hT : ∀ w, S w → T w) (hi : ops[i]? = some oi) (hsel : ∀ (j : Nat) (o : Oper) cs b, ops[j]? = some o → o.op ≠ .select cs b)
    (hQ : ∀ c a w, Q (.panic c) (a.put oi.dst v) w → Q (.panic c) a w) :
    ∀ (fuel : Nat) (listed : Array Bool) (a : Act) (w : World), Closed md ops listed → ((∀ w, T w) ∨ (Blocks md ops n z i = true ∧ listed.getD z true = false)) →
      (∀ j oj, ops[j]? = some oj → j ≠ i → listed.getD j true = false → (∀ e ∈ oj.after, Region.binds md e = true → e.on ≠ i) → oi.apart ops oj = true) →
      i ∈ Region.ready md ops listed → YieldsIf P ops T oi v a → T w → ((listed.setIfInBounds i true).getD z true = false → S w) →
      AnyZ P md ops Q S z fuel (listed.setIfInBounds i true) (a.put oi.dst v) w → AnyZ P md ops Q S z (fuel + 1) listed a w := by
  intro fuel
  induction fuel with
  | zero =>
    intro listed a w _ hz _ hr hy hTw hS H
    refine ⟨fun h => (by rw [h] at hr; cases hr), fun j hj => ?_⟩
    by_cases hji : j = i
    · subst hji; exact hy.wpOp hi hTw ⟨hS, H⟩
    · have := ready_mono hj hji
      rw [H.1] at this
      cases this
  | succ fuel ih =>
    intro listed a w hcl hz hfree hr hy hTw hS H
    refine ⟨fun h => (by rw [h] at hr; cases hr), fun j hj => ?_⟩
    by_cases hji : j = i
    · subst hji; exact hy.wpOp hi hTw ⟨hS, H⟩
    · have h1 := H.2 j (ready_mono hj hji)
      obtain ⟨hjun, oj, hoj, hall⟩ := mem_ready.1 hj
      have hnot : ∀ e ∈ oj.after, Region.binds md e = true → e.on ≠ i := fun e he hb heq => by
        have h1 := hall e he hb
        have h0 := (mem_ready.1 hr).1
        rw [heq] at h1
        rcases Nat.lt_or_ge i listed.size with h' | h'
        · simp [h'] at h0 h1; rw [h0] at h1; cases h1
        · simp [Array.getElem?_eq_none h'] at h1
      have h2 := wpOp_putIf hoj (hfree j oj hoj hji hjun hnot) (fun cs b => hsel i oi cs b hi) (fun cs b => hsel j oj cs b hoj) hQ hy h1
      have hfree' : ∀ k ok, ops[k]? = some ok → k ≠ i → (listed.setIfInBounds j true).getD k true = false →
          (∀ e ∈ ok.after, Region.binds md e = true → e.on ≠ i) → oi.apart ops ok = true := fun k ok hk hki hun hno => by
        refine hfree k ok hk hki ?_ hno
        by_cases hjk : j = k
        · subst hjk; exact hjun
        · rw [getD_set_ne true hjk] at hun; exact hun
      have hz' : (∀ w, T w) ∨ (Blocks md ops n z i = true ∧ (listed.setIfInBounds j true).getD z true = false) := by
        rcases hz with h | ⟨hw, hzl⟩
        · exact .inl h
        · refine .inr ⟨hw, ?_⟩
          have hjz : j ≠ z := by
            rintro rfl
            exact blocks_not_ready hcl hw (ready_un hr) hj
          rw [getD_set_ne true hjz]; exact hzl
      have hzi : (listed.setIfInBounds i true).setIfInBounds j true = (listed.setIfInBounds j true).setIfInBounds i true := (Array.setIfInBounds_comm _ _ (Ne.symm hji)) 
      refine wpOp_mono (fun a' w' h3 => ?_) h2
      obtain ⟨h3a, h3b, h3c⟩ := h3
      have hge : (listed.setIfInBounds j true).getD z true = ((listed.setIfInBounds i true).setIfInBounds j true).getD z true := by
        rw [hzi]; exact (getD_set_ne true hiz).symm
      refine ⟨fun hzl => ?_, ih (listed.setIfInBounds j true) a' w' (hcl.set hj) hz' hfree' (ready_mono hr (Ne.symm hji)) h3a ?_ ?_ ?_⟩
      · exact h3b (hge ▸ hzl)
      · rcases hz' with h | ⟨hw, hzl⟩
        · exact h w'
        · exact hT w' (h3b (hge ▸ hzl))
      · intro h; rw [← hzi] at h; exact h3b h
      · rw [← hzi]; exact h3c

theorem anyZ_take {i z : Nat} {oi : Oper} {v : Value} {fuel : Nat} {listed : Array Bool} {a : Act} {w : World} (hi : ops[i]? = some oi) (hiz : (i != z) = true)
    (hs : Region.noSelect ops = true) (hf : Region.free md ops listed i = true) (hr : (Region.ready md ops listed).contains i = true) (hcl : Closed md ops listed) (n : Nat) (hw : Blocks md ops n z i = true) (hzl : listed.getD z true = false)
    (hQ : ∀ c a w, Q (.panic c) (a.put oi.dst v) w → Q (.panic c) a w) (hy : YieldsIf P ops S oi v a) (hS : S w)
    (h : Closed md ops (listed.setIfInBounds i true) → AnyZ P md ops Q S z fuel (listed.setIfInBounds i true) (a.put oi.dst v) w) : AnyZ P md ops Q S z (fuel + 1) listed a w :=
  anyZ_first (by simpa using hiz) (fun _ h => h) hi (Region.noSelect_spec hs) hQ fuel listed a w hcl (.inr ⟨hw, hzl⟩) (Region.free_spec hi hf) (by simpa using hr) hy hS (fun _ => hS) (h (hcl.set (by simpa using hr)))

/-- what yields in whatever world -/
theorem anyZ_pure {i z : Nat} {oi : Oper} {v : Value} {fuel : Nat} {listed : Array Bool} {a : Act} {w : World} (hi : ops[i]? = some oi) (hiz : (i != z) = true)
    (hs : Region.noSelect ops = true) (hf : Region.free md ops listed i = true) (hr : (Region.ready md ops listed).contains i = true) (hcl : Closed md ops listed)
    (hQ : ∀ c a w, Q (.panic c) (a.put oi.dst v) w → Q (.panic c) a w) (hy : YieldsIf P ops (fun _ => True) oi v a) (hS : (listed.setIfInBounds i true).getD z true = false → S w)
    (h : Closed md ops (listed.setIfInBounds i true) → AnyZ P md ops Q S z fuel (listed.setIfInBounds i true) (a.put oi.dst v) w) : AnyZ P md ops Q S z (fuel + 1) listed a w :=
  anyZ_first (n := 0) (T := fun _ => True) (by simpa using hiz) (fun _ _ => trivial) hi (Region.noSelect_spec hs) hQ fuel listed a w hcl (.inl fun _ => trivial) (Region.free_spec hi hf) (by simpa using hr) hy trivial hS (h (hcl.set (by simpa using hr)))

/-- the one that may come up -/
theorem anyZ_one {i z : Nat} {oi : Oper} {fuel : Nat} {listed : Array Bool} {a : Act} {w : World} (hcl : Closed md ops listed) (hr : Region.ready md ops listed = [i]) (hi : ops[i]? = some oi) (hg : oi.guard = none)
    (h : Closed md ops (listed.setIfInBounds i true) → ∀ K : Act → World → Prop, (∀ a' w', ((listed.setIfInBounds i true).getD z true = false → S w') → AnyZ P md ops Q S z fuel (listed.setIfInBounds i true) a' w' → K a' w') → oi.wp P a w K Q) :
    AnyZ P md ops Q S z (fuel + 1) listed a w := by
  refine ⟨fun h0 => (by rw [hr] at h0; cases h0), fun j hj => ?_⟩
  rw [hr] at hj
  have hji : j = i := by simpa using hj
  subst hji
  unfold wpOp
  simp only [hi]
  rw [if_pos (by simp [Region.wanted, hg])]
  exact .inl (h (hcl.set (by rw [hr]; simp)) _ fun a' w' h1 h2 => ⟨h1, h2⟩)

theorem anyZ_two {i j z : Nat} {oi oj : Oper} {fuel : Nat} {listed : Array Bool} {a : Act} {w : World} (hcl : Closed md ops listed) (hr : Region.ready md ops listed = [i, j]) (hi : ops[i]? = some oi) (hgi : oi.guard = none) (hj : ops[j]? = some oj) (hgj : oj.guard = none)
    (h1 : Closed md ops (listed.setIfInBounds i true) → ∀ K : Act → World → Prop, (∀ a' w', ((listed.setIfInBounds i true).getD z true = false → S w') → AnyZ P md ops Q S z fuel (listed.setIfInBounds i true) a' w' → K a' w') → oi.wp P a w K Q)
    (h2 : Closed md ops (listed.setIfInBounds j true) → ∀ K : Act → World → Prop, (∀ a' w', ((listed.setIfInBounds j true).getD z true = false → S w') → AnyZ P md ops Q S z fuel (listed.setIfInBounds j true) a' w' → K a' w') → oj.wp P a w K Q) :
    AnyZ P md ops Q S z (fuel + 1) listed a w := by
  refine ⟨fun h0 => (by rw [hr] at h0; cases h0), fun k hk => ?_⟩
  rw [hr] at hk
  rcases List.mem_cons.1 hk with rfl | hk
  · unfold wpOp
    simp only [hi]
    rw [if_pos (by simp [Region.wanted, hgi])]
    exact .inl (h1 (hcl.set (by rw [hr]; simp)) _ fun a' w' h1 h2 => ⟨h1, h2⟩)
  · have hkj : k = j := by simpa using hk
    subst hkj
    unfold wpOp
    simp only [hj]
    rw [if_pos (by simp [Region.wanted, hgj])]
    exact .inl (h2 (hcl.set (by rw [hr]; simp)) _ fun a' w' h1 h2 => ⟨h1, h2⟩)

theorem anyZ_done {z : Nat} {listed : Array Bool} {a : Act} {w : World} (hr : Region.ready md ops listed = []) (h : Q .normal a w) : ∀ fuel, AnyZ P md ops Q S z fuel listed a w
  | 0 => ⟨hr, h⟩
  | _ + 1 => ⟨fun _ => h, by rw [hr]; simp⟩

theorem region_anyZ {z id : Nat} {a : Act} {w : World} (hm : P.follows .mixedOrders = true)
    (h : AnyZ P .any ops Q S z ops.size (Array.replicate ops.size false) a w.drew) : (Code.region id ops true).wp P Q a w :=
  wp_region_any hm (any_of_anyZ _ _ _ _ h)

/-- from number z on, one order -/
theorem anyZ_chain {z : Nat} : ∀ (l : List Oper) (k : Nat) (listed : Array Bool) (a : Act) (w : World), (∀ j, l[j]? = ops[k + j]?) → Region.seqB md ops l.length k listed = true → (z = k ∨ listed.getD z true = true) → (z < listed.size) →
    wpList P ops Q l a w → AnyZ P md ops Q S z l.length listed a w
  | [], k, listed, a, w, hl, hB, _, _, h => ⟨by simpa [Region.seqB] using hB, h⟩
  | o :: l, k, listed, a, w, hl, hB, hz, hzs, h => by
    have h0 : ops[k]? = some o := by simpa using (hl 0).symm
    simp only [List.length_cons, Region.seqB, Bool.and_eq_true, decide_eq_true_eq] at hB
    refine ⟨fun h1 => (by rw [hB.1] at h1; cases h1), fun i hi => ?_⟩
    rw [hB.1] at hi
    have hik : i = k := by simpa using hi
    subst hik
    have hzt : (listed.setIfInBounds i true).getD z true = true := by
      rcases hz with rfl | hz
      · simp [hzs]
      · by_cases hiz : i = z
        · subst hiz; simp [hzs]
        · rw [getD_set_ne true hiz]; exact hz
    have hw : wpOp P ops Q i (wpList P ops Q l) a w := by unfold wpOp; simp only [h0]; exact h
    exact wpOp_mono (fun a' w' h' => ⟨(fun h => by rw [hzt] at h; cases h), anyZ_chain l (i + 1) _ a' w' (fun j => by have := hl (j + 1); simpa [Nat.add_assoc, Nat.add_comm 1 j] using this) hB.2 (.inr hzt) (by simpa using hzs) h'⟩) hw

theorem anyZ_begin {z n fuel : Nat} {a : Act} {w : World} (h : Closed md ops (Array.replicate n false) → AnyZ P md ops Q S z fuel (Array.replicate n false) a w) : AnyZ P md ops Q S z fuel (Array.replicate n false) a w := h (closed_start n)
theorem anyZ_held {z fuel : Nat} {listed : Array Bool} {a : Act} {w : World} (hS : S w) (h : S w → AnyZ P md ops Q S z fuel listed a w) : AnyZ P md ops Q S z fuel listed a w := h hS

/-- from number z on, where all ahead of it have come up -/
theorem anyZ_chain_at {z fuel : Nat} {listed : Array Bool} {a : Act} {w : World} (hB : (Region.seqB md ops fuel z listed && decide (z < listed.size) && decide (fuel = ops.size - z)) = true)
    (h : wpList P ops Q (ops.toList.drop z) a w) : AnyZ P md ops Q S z fuel listed a w := by
  simp only [Bool.and_eq_true, decide_eq_true_eq] at hB
  obtain ⟨⟨h1, h2⟩, h3⟩ := hB
  have hl : (ops.toList.drop z).length = fuel := by simp [h3]
  have := anyZ_chain (P := P) (Q := Q) (S := S) (md := md) (ops := ops) (z := z) (ops.toList.drop z) z listed a w (fun j => by simp) (by rw [hl]; exact h1) (.inl rfl) h2 h
  rw [hl] at this
  exact this
end
end Go.Proofs.YtljdphpbalioaaaGreatDoor
/- A region that draws its order, with guards: the one, or the two, that may come up. No program is in sight. -/
namespace Go.Proofs.YtljdphpbalioaaaGreatDoor
open Go.RowKit
variable {P : Program} {ops : Array Oper} {Q : Exit → Act → World → Prop} {md : Region.Mode} {S : World → Prop}
theorem anyZ_oneG {i z : Nat} {oi : Oper} {fuel : Nat} {listed : Array Bool} {a : Act} {w : World} (hcl : Closed md ops listed) (hr : Region.ready md ops listed = [i]) (hi : ops[i]? = some oi) (hg : Region.wanted oi (yielded ops a.tmps) = true)
    (h : Closed md ops (listed.setIfInBounds i true) → ∀ K : Act → World → Prop, (∀ a' w', ((listed.setIfInBounds i true).getD z true = false → S w') → AnyZ P md ops Q S z fuel (listed.setIfInBounds i true) a' w' → K a' w') → oi.wp P a w K Q) :
    AnyZ P md ops Q S z (fuel + 1) listed a w := by
  refine ⟨fun h0 => (by rw [hr] at h0; cases h0), fun j hj => ?_⟩
  rw [hr] at hj
  have hji : j = i := by simpa using hj
  subst hji
  unfold wpOp
  simp only [hi]
  rw [if_pos hg]
  exact .inl (h (hcl.set (by rw [hr]; simp)) _ fun a' w' h1 h2 => ⟨h1, h2⟩)

theorem anyZ_twoG {i j z : Nat} {oi oj : Oper} {fuel : Nat} {listed : Array Bool} {a : Act} {w : World} (hcl : Closed md ops listed) (hr : Region.ready md ops listed = [i, j]) (hi : ops[i]? = some oi) (hgi : Region.wanted oi (yielded ops a.tmps) = true) (hj : ops[j]? = some oj) (hgj : Region.wanted oj (yielded ops a.tmps) = true)
    (h1 : Closed md ops (listed.setIfInBounds i true) → ∀ K : Act → World → Prop, (∀ a' w', ((listed.setIfInBounds i true).getD z true = false → S w') → AnyZ P md ops Q S z fuel (listed.setIfInBounds i true) a' w' → K a' w') → oi.wp P a w K Q)
    (h2 : Closed md ops (listed.setIfInBounds j true) → ∀ K : Act → World → Prop, (∀ a' w', ((listed.setIfInBounds j true).getD z true = false → S w') → AnyZ P md ops Q S z fuel (listed.setIfInBounds j true) a' w' → K a' w') → oj.wp P a w K Q) :
    AnyZ P md ops Q S z (fuel + 1) listed a w := by
  refine ⟨fun h0 => (by rw [hr] at h0; cases h0), fun k hk => ?_⟩
  rw [hr] at hk
  rcases List.mem_cons.1 hk with rfl | hk
  · unfold wpOp
    simp only [hi]
    rw [if_pos hgi]
    exact .inl (h1 (hcl.set (by rw [hr]; simp)) _ fun a' w' h1 h2 => ⟨h1, h2⟩)
  · have hkj : k = j := by simpa using hk
    subst hkj
    unfold wpOp
    simp only [hj]
    rw [if_pos hgj]
    exact .inl (h2 (hcl.set (by rw [hr]; simp)) _ fun a' w' h1 h2 => ⟨h1, h2⟩)
end Go.Proofs.YtljdphpbalioaaaGreatDoor
/- 'make([]byte, n)'. No program is in sight. -/
namespace Go.Proofs.YtljdphpbalioaaaGreatDoor
open Go.RowKit

theorem made8 (n : Nat) : (madeCells (.int .u8 0 : Value).cells (n * 1)).toList = (List.replicate n (0 : UInt8)).map B8 := by
  rw [List.map_replicate]
  apply List.eq_replicate_iff.2
  refine ⟨by rw [Array.length_toList, size_madeCells, Nat.mul_one], fun b hb => ?_⟩
  unfold madeCells at hb
  rw [Array.toList_map] at hb
  obtain ⟨a, _, rfl⟩ := List.mem_map.1 hb
  show (#[(.int .u8 0 : Value)] : Array Value)[a % 1]! = _
  rw [Nat.mod_one]
  rfl

/-- what '[]byte' asks of a make -/
structure MakeTy (P : Program) (t e : TypeId) : Prop where
  ht : P.underlying t = some (.slice e)
  ex : ∃ i, P.info? e = some i ∧ i.zero = some (.int .u8 0) ∧ i.size = 1 ∧ i.bytes = 1

theorem MakeTy.mk' {P : Program} {t e : TypeId} (ht : P.underlying t = some (.slice e)) (hi : (P.info? e).map (fun i => (i.zero, i.size, i.bytes)) = some (some (.int .u8 0), 1, 1)) : MakeTy P t e := by
  obtain ⟨i, h1, h2, h3, h4⟩ := info_parts hi
  exact ⟨ht, i, h1, h2, h3, h4⟩

theorem run_make8 {P : Program} (w : World) {t e : TypeId} (T : MakeTy P t e) (n : Nat) (hn : n ≤ 1000000) :
    ∃ w', (Instr.makeSlice t (.int .i64 n) (.int .i64 n)).run P w = .ok (.slice (some ⟨w.heap.size, 0, none⟩) n n) w' ∧ Own8 e w.heap.size w' (.slice (some ⟨w.heap.size, 0, none⟩) n n) (List.replicate n 0) ∧ Below w.heap.size w w' := by
  obtain ⟨i, hi, hz, hs, hb⟩ := T.ex
  obtain ⟨w', hrun, r1, r2⟩ := run_make_full (P := P) w w.heap.size t e i (.int .u8 0) 1 T.ht hi hz hs .i64 .i64 n (by rw [hb]; omega) (by unfold maxLen; omega) (Nat.le_refl _)
  rw [made8] at r1
  exact ⟨w', hrun, by unfold Own8; rw [List.length_replicate]; exact r1, ⟨r2.os, r2.tape, r2.output, r2.size, fun k hk => r2.block k hk (by simp)⟩⟩

theorem wp_make8 {P : Program} {o : Oper} {a : Act} {w : World} {K : Act → World → Prop} {Q : Exit → Act → World → Prop} (l c : Operand) (t e : TypeId) (T : MakeTy P t e) (ho : o.op = .makeSlice t l c) (n : Nat) (hl : a.eval l = .int .i64 n) (hc : a.eval c = .int .i64 n) (hn : n ≤ 1000000)
    (h : ∀ w', Own8 e w.heap.size w' (.slice (some ⟨w.heap.size, 0, none⟩) n n) (List.replicate n 0) → Below w.heap.size w w' → K (a.put o.dst (.slice (some ⟨w.heap.size, 0, none⟩) n n)) w') : o.wp P a w K Q := by
  obtain ⟨w', hr, h1, h2⟩ := run_make8 w T n hn
  unfold Oper.wp execOp
  simp only [ho, hl, hc, Sem.run_bind, hr, Result.andThen_ok]
  exact h w' h1 h2

theorem wpList_make8 {P : Program} {w : World} {ops : Array Oper} {rest : List Oper} {o : Oper} {a : Act} {Q : Exit → Act → World → Prop} (hgd : o.guard = none) (l c : Operand) (t e : TypeId) (T : MakeTy P t e) (ho : o.op = .makeSlice t l c) (n : Nat) (hl : a.eval l = .int .i64 n) (hc : a.eval c = .int .i64 n) (hn : n ≤ 1000000)
    (h : ∀ w', Own8 e w.heap.size w' (.slice (some ⟨w.heap.size, 0, none⟩) n n) (List.replicate n 0) → Below w.heap.size w w' → wpList P ops Q rest (a.put o.dst (.slice (some ⟨w.heap.size, 0, none⟩) n n)) w') : wpList P ops Q (o :: rest) a w :=
  wpList_plain hgd fun _ hK => wp_make8 l c t e T ho n hl hc hn fun w' h1 h2 => hK _ _ (h w' h1 h2)
end Go.Proofs.YtljdphpbalioaaaGreatDoor
/- What comes in: a reading opened as lists. No program is in sight. -/
namespace Go.Proofs.YtljdphpbalioaaaGreatDoor
open Go.RowKit Go.Deep

section
variable {H : Type} {enc : TypeId × Value → H} {P : Program} {w : World}

/-- what a law's arguments are read under -/
abbrev Reads (enc : TypeId × Value → H) (P : Program) (w : World) (fuel : Nat) (t : TypeId) (cs : List Value) (x : DataW H × List MemPlace) : Prop :=
  DataW.trod enc P w 0 (fun _ => true) true fuel t cs = some x

theorem byte_of_reads {fuel : Nat} {e : TypeId} {u : Value} {y : DataW H × List MemPlace} (he : P.underlying e = some (.int .u8)) (h : Reads enc P w fuel e [u] y) : ∃ b : UInt8, u = B8 b := by
  obtain ⟨n, e0, _, hw⟩ := DataW.trod_int he h
  cases e0
  obtain ⟨h0, h1⟩ := wf_u8' hw
  obtain ⟨m, rfl⟩ := Int.eq_ofNat_of_zero_le h0
  refine ⟨UInt8.ofNat m, ?_⟩
  unfold B8
  rw [UInt8.toNat_ofNat_of_lt' (show m < UInt8.size by simp [UInt8.size]; omega)]

/-- a slice of one-cell elements -/
theorem slice_of_reads {α : Type} [Inhabited α] {R : World → Value → α → Prop} {t e : TypeId} {fuel : Nat} {v : Value} {x : DataW H × List MemPlace} (ht : P.underlying t = some (.slice e)) (hc : P.cellsOf e = 1)
    (h : Reads enc P w fuel t [v] x) (hel : ∀ (n : Nat) (u : Value) (y : DataW H × List MemPlace), Reads enc P w n e [u] y → ∃ b : α, R w u b) : ∃ l : List α, SliceOf R w v l := by
  rcases open_slice1 ht hc h with ⟨h0, _⟩ | ⟨a, len, cap, m, n, V, D, Pl, h0, _, hl, hm, hmm, _, hx⟩
  · cases h0
    exact ⟨[], none, 0, rfl, by simp, Nat.le_refl _, fun _ => rfl, .inl rfl⟩
  · cases h0
    simp only [if_true] at hmm
    subst hmm
    have hb : ∀ i, i < m → ∃ b : α, R w (V i) b := fun i hi => hel n (V i) _ (hx i hi).2
    obtain ⟨f, hf⟩ := choose_lt hb
    have hlen : ((List.range len).map f).length = len := by simp
    refine ⟨(List.range len).map f, some a, m, by rw [hlen], by omega, by omega, fun h => (by cases h), ?_⟩
    by_cases hz : len = 0
    · left; subst hz; rfl
    · right
      have hx0 := spot_none (x := a) (by simpa [Addr.add] using (hx 0 (by omega)).1)
      refine ⟨a.block, a.off, by rw [← hx0], fun j b hjb => ?_⟩
      have hj : j < len := by have := (List.getElem?_eq_some_iff.1 hjb).1; omega
      have h6 := (hx j (by omega)).1
      rw [hx0, Addr.add_mid] at h6
      refine ⟨_, h6, ?_⟩
      simp [hj] at hjb
      subst hjb
      exact hf j (by omega)

theorem bytes_of_reads {t e : TypeId} {fuel : Nat} {v : Value} {x : DataW H × List MemPlace} (ht : P.underlying t = some (.slice e)) (he : P.underlying e = some (.int .u8)) (hc : P.cellsOf e = 1)
    (h : Reads enc P w fuel t [v] x) : ∃ l : List UInt8, Bytes w v l :=
  slice_of_reads ht hc h fun _ _ _ hy => byte_of_reads he hy

theorem rows_of_reads {t e q : TypeId} {fuel : Nat} {v : Value} {x : DataW H × List MemPlace} (ht : P.underlying t = some (.slice e)) (he : P.underlying e = some (.slice q)) (hq : P.underlying q = some (.int .u8))
    (ce : P.cellsOf e = 1) (cq : P.cellsOf q = 1) (h : Reads enc P w fuel t [v] x) : ∃ l : List (List UInt8), Rows8 w v l :=
  slice_of_reads ht ce h fun _ _ _ hy => bytes_of_reads he hq cq hy

end
end Go.Proofs.YtljdphpbalioaaaGreatDoor
/- What comes in: a struct by value, its fields of one cell each. No program is in sight. -/
namespace Go.Proofs.YtljdphpbalioaaaGreatDoor
open Go.RowKit Go.Deep Go.WideShapes Go.Proofs

theorem open_aggN {H : Type} {enc : TypeId × Value → H} {P : Program} {w : World} {r : Reach} {b0 : Nat} {t : TypeId} {fs : Array Field} {v : Value} {d : DataW H} {p : List MemPlace} (hs : P.underlying t = some (.struct fs)) (hone : oneCellFields P fs = true) (hC : P.cellsOf t = fs.size)
    (hv : Value.okWide P w r b0 t v) (h : DataW.Trod enc P w 0 (fun _ => true) true t v d p) :
    ∃ cs, v = .agg cs ∧ cs.size = fs.size ∧ ∀ (i : Nat) f, fs[i]? = some f → ∃ (u : Value) (n : Nat) (y : DataW H × List MemPlace), cs[i]? = some u ∧ Reads enc P w n f.type [u] y := by
  obtain ⟨cs, rfl, hsz⟩ := okWide_struct hs hv
  obtain ⟨fuel, hf⟩ := h
  obtain ⟨xs, n, _, _, _, hlen, hall⟩ := DataW.trod_struct hs hf
  refine ⟨cs, rfl, hsz.trans hC, fun i f hi => ?_⟩
  obtain ⟨o0, k0⟩ := hone_of hone i f hi
  have hif := (Array.getElem?_eq_some_iff.1 hi).1
  have hx := hall i f hi
  have hic : i < cs.size := by omega
  rw [o0, k0, List.getElem?_eq_getElem (by omega)] at hx
  refine ⟨cs[i], n, xs[i]'(by omega), Array.getElem?_eq_getElem hic, ?_⟩
  have e : (((Value.agg cs).cells.toList.drop i).take 1) = [cs[i]] := by
    show ((cs.toList.drop i).take 1) = _
    rw [List.drop_eq_getElem_cons (by simpa using hic)]
    simp
  rw [e] at hx
  exact hx
end Go.Proofs.YtljdphpbalioaaaGreatDoor
/- Slices of structs: read, opened, one's own. No program is in sight. -/
namespace Go.Proofs.YtljdphpbalioaaaGreatDoor
open Go.RowKit Go.Deep Go.ChangeShapes Go.WideShapes

/-- a slice of structs, each of n cells, each of which stands for one of l -/
def Recs {α : Type} (n : Nat) (R : World → List Value → α → Prop) (w : World) (v : Value) (l : List α) : Prop :=
  ∃ a c, v = .slice a l.length c ∧ l.length ≤ maxLen ∧ l.length ≤ c ∧ (a = none → c = 0) ∧ (l = [] ∨ ∃ g o, a = some ⟨g, o, none⟩ ∧ ∀ j x, l[j]? = some x → ∃ us : List Value, us.length = n ∧ w.rangeAt g (o + j * n) us ∧ R w us x)

theorem Recs.mono {α : Type} {n : Nat} {R S : World → List Value → α → Prop} {w w' : World} {v : Value} {l : List α} (hn : 0 < n) (h : Recs n R w v l) (hb : Below w.heap.size w w')
    (hR : ∀ us x, x ∈ l → R w us x → S w' us x) : Recs n S w' v l := by
  obtain ⟨a, c, rfl, hm, hc, hz, h⟩ := h
  refine ⟨a, c, rfl, hm, hc, hz, ?_⟩
  rcases h with h | ⟨g, o, ha, h⟩
  · exact .inl h
  · refine .inr ⟨g, o, ha, fun j x hx => ?_⟩
    obtain ⟨us, hl, hu, hr⟩ := h j x hx
    have h0 := hu 0 us[0] (List.getElem?_eq_getElem (by omega))
    exact ⟨us, hl, rangeAt_keep hu (block_lt_of_cell h0) hb, hR us x (List.mem_of_getElem? hx) hr⟩

/-- a slice of one-cell-field structs that came in -/
theorem recs_of_reads {H : Type} {enc : TypeId × Value → H} {P : Program} {w : World} {α : Type} {R : World → List Value → α → Prop} {t e : TypeId} {fs : Array Field} {fuel : Nat} {v : Value} {x : DataW H × List MemPlace}
    (ht : P.underlying t = some (.slice e)) (he : P.underlying e = some (.struct fs)) (hone : oneCellFields P fs = true) (hC : P.cellsOf e = fs.size) (hpos : 0 < fs.size) (h : Reads enc P w fuel t [v] x)
    (hel : ∀ (n : Nat) (us : List Value), us.length = fs.size → (∀ (j : Nat) (f : Field), fs[j]? = some f → ∃ u y, us[j]? = some u ∧ Reads enc P w n f.type [u] y) → ∃ b : α, R w us b) (i0 : α) :
    ∃ l : List α, Recs fs.size R w v l := by
  rcases open_slice ht h with ⟨h0, _⟩ | ⟨a, len, cap, m, n, D, Pl, hcs, hb, hl, hm, hmm, hx, hi⟩
  · cases h0
    exact ⟨[], none, 0, rfl, by simp, Nat.le_refl _, fun _ => rfl, .inl rfl⟩
  · cases hcs
    simp only [if_true] at hmm
    subst hmm
    have hb : ∀ i, i < m → ∃ q : List Value × α, q.1.length = fs.size ∧ R w q.1 q.2 ∧ ∀ (j : Nat) u, q.1[j]? = some u → w.cell? (a.add (i * fs.size + j)) = some u := by
      intro i him
      obtain ⟨cs', hc, ht'⟩ := hi i him
      rw [hC] at hc
      obtain ⟨ys, n', hn', hy, hlen, hyl, hf⟩ := DataW.trod_struct he ht'
      obtain ⟨_, hcl, hat⟩ := World.cells?_some hc
      have hcl' : cs'.length = fs.size := hcl
      obtain ⟨b, hb⟩ := hel n' cs' hcl' (fun j f hj => by
        obtain ⟨ho, hk⟩ := hone_of hone j f hj
        have hjl : j < fs.size := (Array.getElem?_eq_some_iff.1 hj).1
        have h1 := hf j f hj
        rw [ho, hk] at h1
        have hone' : (cs'.drop j).take 1 = [cs'[j]'(by omega)] := by
          rw [List.drop_eq_getElem_cons (by omega)]
          rfl
        rw [hone'] at h1
        have hys : ys[j]? = some (ys[j]'(by omega)) := List.getElem?_eq_getElem (by omega)
        exact ⟨_, _, List.getElem?_eq_getElem (by omega), h1.trans hys⟩)
      refine ⟨(cs', b), hcl', hb, fun j u hu => ?_⟩
      have hjl : j < fs.size := by have := (List.getElem?_eq_some_iff.1 hu).1; simp only at this; omega
      have := hat j hjl
      rw [← Go.Deep.add_add, this]
      exact hu
    have hne : Nonempty α := ⟨i0⟩
    obtain ⟨F, hF⟩ : ∃ F : Nat → List Value × α, ∀ i, i < m → (F i).1.length = fs.size ∧ R w (F i).1 (F i).2 ∧ ∀ (j : Nat) u, (F i).1[j]? = some u → w.cell? (a.add (i * fs.size + j)) = some u := by
      refine ⟨fun i => if h : i < m then Classical.choose (hb i h) else ([], i0), fun i hi => ?_⟩
      simp only [dif_pos hi]
      exact Classical.choose_spec (hb i hi)
    have hlen : ((List.range len).map fun i => (F i).2).length = len := by simp
    refine ⟨(List.range len).map fun i => (F i).2, some a, m, by rw [hlen], by omega, by omega, fun h => (by cases h), ?_⟩
    by_cases hz : len = 0
    · left; subst hz; rfl
    · right
      obtain ⟨h1, h2, h3⟩ := hF 0 (by omega)
      have hx0 := spot_none (x := a) (by simpa [Addr.add] using h3 0 _ (List.getElem?_eq_getElem (by omega)))
      refine ⟨a.block, a.off, by rw [← hx0], fun j b hjb => ?_⟩
      have hj : j < len := by have := (List.getElem?_eq_some_iff.1 hjb).1; omega
      simp [hj] at hjb
      subst hjb
      obtain ⟨h1, h2, h3⟩ := hF j (by omega)
      refine ⟨(F j).1, h1, fun k u hu => ?_, h2⟩
      have h6 := h3 k u hu
      rw [hx0, Addr.add_mid] at h6
      rw [Nat.add_assoc]
      exact h6

theorem flat_get {α : Type} (cs : α → List Value) (n : Nat) (hn : ∀ x, (cs x).length = n) (l : List α) : ∀ (j i : Nat) (x : α), l[j]? = some x → i < n → (l.flatMap cs)[j * n + i]? = (cs x)[i]? := by
  induction l with
  | nil => intro j i x h _; simp at h
  | cons y l ih =>
    intro j i x h hi
    rw [List.flatMap_cons]
    cases j with
    | zero =>
      simp at h
      subst h
      rw [List.getElem?_append_left (by rw [hn]; omega)]
      simp
    | succ j =>
      rw [List.getElem?_append_right (by rw [hn, Nat.succ_mul]; omega), hn, show (j + 1) * n + i - n = j * n + i by rw [Nat.succ_mul]; omega]
      exact ih j i x (by simpa using h) hi

theorem flat_length {α : Type} (cs : α → List Value) (n : Nat) (hn : ∀ x, (cs x).length = n) (l : List α) : (l.flatMap cs).length = l.length * n := by
  induction l with
  | nil => simp
  | cons y l ih => rw [List.flatMap_cons, List.length_append, hn, ih, List.length_cons, Nat.succ_mul]; omega

/-- rows of one's own, read as structs -/
theorem recs_of_own {α : Type} {cs : α → List Value} {n : Nat} (hn : ∀ x, (cs x).length = n) (h0 : 0 < n) {w : World} {base : Nat} {e : TypeId} {v : Value} {l : List α} (h : w.ownsRow base e n v l.length (l.flatMap cs)) :
    Recs n (fun _ us x => us = cs x) w v l := by
  obtain ⟨a, c, rfl, hc, hm, hz, hl, _⟩ := ownsRow_lies h
  refine ⟨a, c, rfl, Nat.le_trans hc hm, hc, hz, ?_⟩
  rcases hl with hl | ⟨g, o, ha, hr⟩
  · left
    have := flat_length cs n hn l
    rw [hl] at this
    rw [List.length_nil] at this
    rcases Nat.eq_zero_or_pos l.length with h | h
    · exact List.length_eq_zero_iff.1 h
    · have := Nat.mul_pos h h0; omega
  · refine .inr ⟨g, o, ha, fun j x hx => ⟨cs x, hn x, fun i u hu => ?_, rfl⟩⟩
    have hi : i < n := by have := (List.getElem?_eq_some_iff.1 hu).1; rw [hn] at this; exact this
    have h6 := hr (j * n + i) u (by rw [flat_get cs n hn l j i x hx hi]; exact hu)
    rw [Nat.add_assoc]
    exact h6
end Go.Proofs.YtljdphpbalioaaaGreatDoor
/- Plain: a range over a function whose iterator has blocks of its own. No program is in sight. -/
namespace Go.Proofs.YtljdphpbalioaaaGreatDoor
open Go Go.RowKit

/-- what an iterator keeps its hands off: all that lay ahead of it, and what is the caller's -/
def Steps (B : Nat) (C : Nat → Prop) (A A' : World) : Prop := Only A A' (fun q => B ≤ q ∧ ¬ C q)
/-- a caller's word, with the blocks it speaks of and may turn -/
def Holds {α : Type} (B : Nat) (J : List α → (Nat → Prop) → World → Prop) : Prop := ∀ pre C A A', J pre C A → Steps B C A A' → J pre C A'

/-- the contract of an iterator that has blocks of its own -/
def SeqOwn {α : Type} (F : Fence) (n : Nat) (P : Program) (g : Nat) (lb : Array Value) (encs : α → Array Value) (G : α → World → Prop) (Pre : List α → α → Prop) (S Sp : List α → Prop) (Safe : Nat → Prop) (w : World) : Prop :=
  ∀ (l : Nat) (J Jx : List α → (Nat → Prop) → World → Prop) (C0 : Nat → Prop) (W : World), Below w.heap.size w W → Holds W.heap.size J → Holds W.heap.size Jx →
    (∀ pre C A, J pre C A → ∀ q, C q → q < A.heap.size) → (∀ q, C0 q → Safe q) →
    (∀ pre x C A, J pre C A → G x A → Pre pre x → YieldAt F (n - 1) P l (encs x) A fun e A' => Only A A' C ∧ ∃ C' : Nat → Prop, (∀ q, C' q → C q ∨ A.heap.size ≤ q) ∧
      ((e = .returned (.bool true) ∧ J (pre ++ [x]) C' A') ∨ (e = .returned (.bool false) ∧ Jx (pre ++ [x]) C' A'))) →
    J [] C0 W →
    CallsIn F n P g (#[.func (.yield l) #[] #[]] ++ lb) W fun e W' => (∃ v, e = .returned v) ∧ ((∃ xs C, S xs ∧ J xs C W') ∨ (∃ pre C, Sp pre ∧ Jx pre C W'))

/-- how the body of a round may be left -/
def seqPost {α : Type} (I : List α → (Nat → Prop) → World → Prop) (Ix : Code → List α → (Nat → Prop) → World → Prop) (xs : List α) (C : Nat → Prop) (A : World) : Exit → Act → World → Prop
  | .normal, _, A' => Only A A' C ∧ ∃ C' : Nat → Prop, (∀ q, C' q → C q ∨ A.heap.size ≤ q) ∧ I xs C' A'
  | .ret, _, A' => Only A A' C ∧ ∃ C' : Nat → Prop, (∀ q, C' q → C q ∨ A.heap.size ≤ q) ∧ Ix .ret xs C' A'
  | .exit id, _, A' => Only A A' C ∧ ∃ C' : Nat → Prop, (∀ q, C' q → C q ∨ A.heap.size ≤ q) ∧ Ix (.exit id) xs C' A'
  | .goto t, _, A' => Only A A' C ∧ ∃ C' : Nat → Prop, (∀ q, C' q → C q ∨ A.heap.size ≤ q) ∧ Ix (.goto t) xs C' A'
  | .panic _, _, _ => False
  | .outgrown, _, _ => False

theorem Only.putObj (W : World) (l : Nat) (o : Obj) : Only W (W.putObj l o) (fun q => q = l) :=
  ⟨rfl, rfl, rfl, by simp, fun k _ hk => World.putObj_heap_other hk⟩

variable {F : Fence} {n : Nat} {P : Program}

/-- the statement 'for .. := range seq', over such an iterator -/
theorem wpIn_rangeFunc_seq {α : Type} {g : Operand} {ps : Array Tmp} {assign body : Code} {Q : Exit → Act → World → Prop} {a : Act} {w : World}
    (hro : F.round = none) (h1 : 1 ≤ n) {gf : Nat} {lb : Array Value} (hg : a.eval g = .func (.func gf) #[] lb) (hFg : F.fn gf) (eg : ∀ args w, (callFunc gf args).run P w = .ok (.enter gf args) w)
    {encs : α → Array Value} {G : α → World → Prop} {Pre : List α → α → Prop} {S Sp : List α → Prop} {Safe : Nat → Prop} {w0 : World} (hseq : SeqOwn F (n - 1) P gf lb encs G Pre S Sp Safe w0)
    (hG : ∀ x A r o o', G x A → A.heap[r]? = some o → o.isCells = false → G x (A.putObj r o')) (hb0 : Below w0.heap.size w0 w) (hn0 : Safe (w.heap.size + 1)) (hps : ∀ x, (encs x).size = ps.size)
    (I : List α → (Nat → Prop) → World → Prop) (Ix : Code → List α → (Nat → Prop) → World → Prop) (C0 : Nat → Prop) (hI : Holds w.heap.size I) (hIx : ∀ c, Holds w.heap.size (Ix c))
    (hIs : ∀ pre C A, I pre C A → ∀ q, C q → q < A.heap.size) (hC0 : ∀ q, C0 q → Safe q) (h0 : I [] C0 w) (a₁ : α → Act)
    (hassign : ∀ (l : Nat) (x : α) (W : World) (K : Act → World → Prop), K (a₁ x) W →
      assign.wpIn (F.inRound l) (n - 1 - 1) P (Exit.then K (fun _ _ _ => False)) { tmps := (ps.zip (encs x)).foldl (fun t (p, v) => t.setIfInBounds p v) a.tmps, defers := [] } W)
    (hbody : ∀ (l : Nat) (pre : List α) (x : α) (C : Nat → Prop) (A : World), I pre C A → G x A → Pre pre x → body.wpIn (F.inRound l) (n - 1 - 1) P (seqPost I Ix (pre ++ [x]) C A) (a₁ x) A)
    (hdone : ∀ (D : Nat) (xs : List α) (C : Nat → Prop) (W : World), w.heap.size ≤ D → S xs → I xs C W → W.heap[D]? = some (.deferred (some [])) → Q .normal { a with defers := { target := .collected D, args := #[] } :: a.defers } W)
    (hstop : ∀ (D : Nat) (c : Code) (pre : List α) (C : Nat → Prop) (W : World), w.heap.size ≤ D → Sp pre → Ix c pre C W → W.heap[D]? = some (.deferred (some [])) → c.wpIn F n P Q { a with defers := { target := .collected D, args := #[] } :: a.defers } W) :
    (Code.rangeFunc g ps assign body).wpIn F n P Q a w := by
  refine wpIn_rangeFunc ?_
  intro fn hfn
  rw [hro]
  obtain ⟨rec, hrec⟩ : ∃ rec : LoopState → Option Code → Loop, rec = fun st pe => { state := st, pending := pe, fn, tmps := a.tmps, params := ps, assign, body, defers := w.heap.size } := ⟨_, rfl⟩
  obtain ⟨W1, hW1⟩ : ∃ W1, (w.alloc (.deferred (some []))).alloc (.loop (rec .ready none)) = W1 := ⟨_, rfl⟩
  have hs1 : W1.heap.size = w.heap.size + 2 := by rw [← hW1]; simp
  have hL1 : W1.heap[w.heap.size + 1]? = some (.loop (rec .ready none)) := by
    rw [← hW1]; have := World.alloc_heap_new (w.alloc (.deferred (some []))) (.loop (rec .ready none)); rwa [World.size_alloc] at this
  have hK1 : W1.heap[w.heap.size]? = some (.deferred (some [])) := by
    rw [← hW1]; exact (Below.heap_alloc _ _ _ (by simp)).trans (World.alloc_heap_new w _)
  have hb1' : Below w.heap.size w W1 := by rw [← hW1]; exact (((Below.refl _ w).alloc (Nat.le_refl _) _).alloc (by simp) _)
  have hI1 : I [] C0 W1 := hI _ _ _ _ h0 ((Only.of_below hb1' fun _ => False).mono fun _ _ h => h.elim)
  have hb1 : Below w0.heap.size w0 W1 := hb0.trans (hb1'.mono hb0.size)
  -- a turn of a block of book-keeping
  have turn : ∀ {J : List α → (Nat → Prop) → World → Prop} {pre : List α} {C : Nat → Prop} {A : World} (o : Obj), Holds w.heap.size J → ¬ C (w.heap.size + 1) → J pre C A → J pre C (A.putObj (w.heap.size + 1) o) := fun o hJ hc h => hJ _ _ _ _ h ((Only.putObj _ _ _).mono fun i _ e => by subst e; exact ⟨by omega, hc⟩)
  refine ⟨w.heap.size + 1, [{ target := .collected w.heap.size, args := #[] }], W1, { target := .fn (.func gf) lb, args := #[.func (.yield (w.heap.size + 1)) #[] #[]] }, W1, gf,
    #[.func (.yield (w.heap.size + 1)) #[] #[]] ++ lb, W1, ?_, ?_, ?_, ?_, fun _ => h1, ?_⟩
  · rw [← hW1, hrec]; exact run_enterLoop_outer _ _ _ _ _
  · simp only [resolve, hg]
    simp [go_sem]
  · intro f' hf'; simp [Target.leads] at hf'; subst hf'; exact hFg
  · simp [invoke, go_sem, eg]
  · refine (hseq (w.heap.size + 1)
      (fun pre C A => ∃ C1 : Nat → Prop, (∀ q, C q ↔ C1 q ∨ q = w.heap.size + 1) ∧ ¬ C1 (w.heap.size + 1) ∧ ¬ C1 w.heap.size ∧ I pre C1 A ∧ A.heap[w.heap.size + 1]? = some (.loop (rec .ready none)) ∧ A.heap[w.heap.size]? = some (.deferred (some [])))
      (fun pre C A => ∃ C1 : Nat → Prop, (∀ q, C q ↔ C1 q ∨ q = w.heap.size + 1) ∧ ¬ C1 (w.heap.size + 1) ∧ ¬ C1 w.heap.size ∧ ∃ c, Ix c pre C1 A ∧ A.heap[w.heap.size + 1]? = some (.loop (rec .done (some c))) ∧ A.heap[w.heap.size]? = some (.deferred (some [])))
      (fun q => C0 q ∨ q = w.heap.size + 1) W1 hb1 ?_ ?_ ?_ ?_ ?_ ?_).mono ?_
    · rintro pre C A A' ⟨C1, hC, hl1, hl2, hi, hl, hk⟩ hst
      refine ⟨C1, hC, hl1, hl2, hI _ _ _ _ hi (hst.mono fun i _ h => ⟨by omega, fun hc => h.2 ((hC i).2 (.inl hc))⟩), ?_, ?_⟩
      · exact (hst.block _ (Array.getElem?_eq_some_iff.1 hl).1 fun h => by omega).trans hl
      · exact (hst.block _ (Array.getElem?_eq_some_iff.1 hk).1 fun h => by omega).trans hk
    · rintro pre C A A' ⟨C1, hC, hl1, hl2, c, hi, hl, hk⟩ hst
      refine ⟨C1, hC, hl1, hl2, c, hIx c _ _ _ _ hi (hst.mono fun i _ h => ⟨by omega, fun hc => h.2 ((hC i).2 (.inl hc))⟩), ?_, ?_⟩
      · exact (hst.block _ (Array.getElem?_eq_some_iff.1 hl).1 fun h => by omega).trans hl
      · exact (hst.block _ (Array.getElem?_eq_some_iff.1 hk).1 fun h => by omega).trans hk
    · rintro pre C A ⟨C1, hC, hl1, hl2, hi, hl, hk⟩ q hq
      rcases (hC q).1 hq with h | rfl
      · exact hIs _ _ _ hi q h
      · exact (Array.getElem?_eq_some_iff.1 hl).1
    · rintro q (h | rfl)
      · exact hC0 q h
      · exact hn0
    · -- one round
      rintro pre x C W ⟨C1, hC, hl1, hl2, hi, hl, hk⟩ hgx hpre
      have hlt : w.heap.size + 1 < W.heap.size := (Array.getElem?_eq_some_iff.1 hl).1
      have hy := run_yield (P := P) (args := encs x) hl (by rw [hrec]; exact hps x)
      rw [hrec] at hy
      refine ⟨fn, _, assign, body, hy, roundIn_of_wpIn hfn (hassign _ x W _ ⟨_, run_beginRound hl (by rw [hrec]), ?_⟩)⟩
      have hl2' : (W.putObj (w.heap.size + 1) (.loop { rec .ready none with state := .busy })).heap[w.heap.size + 1]? = some (.loop { rec .ready none with state := .busy }) := World.putObj_heap_same hlt
      have hk2 : (W.putObj (w.heap.size + 1) (.loop { rec .ready none with state := .busy })).heap[w.heap.size]? = some (.deferred (some [])) := (World.putObj_heap_other (by omega)).trans hk
      have hw2 : Only W (W.putObj (w.heap.size + 1) (.loop { rec .ready none with state := .busy })) (fun q => q = w.heap.size + 1) := Only.putObj _ _ _
      refine wpIn_mono (hbody _ pre x C1 _ (turn _ hI hl1 hi) (hG _ _ _ _ _ hgx hl rfl) hpre) ?_
      have fin : ∀ (jump : Option Code) (C' : Nat → Prop) (W3 : World), Only (W.putObj (w.heap.size + 1) (.loop { rec .ready none with state := .busy })) W3 C1 → (∀ q, C' q → C1 q ∨ W.heap.size ≤ q) →
          (Instr.endRound (w.heap.size + 1) jump).run P W3 = .ok (.bool jump.isNone) (W3.putObj (w.heap.size + 1) (.loop (rec (if jump.isNone then .ready else .done) jump))) ∧
          (W3.putObj (w.heap.size + 1) (.loop (rec (if jump.isNone then .ready else .done) jump))).heap[w.heap.size + 1]? = some (.loop (rec (if jump.isNone then .ready else .done) jump)) ∧
          (W3.putObj (w.heap.size + 1) (.loop (rec (if jump.isNone then .ready else .done) jump))).heap[w.heap.size]? = some (.deferred (some [])) ∧
          Only W (W3.putObj (w.heap.size + 1) (.loop (rec (if jump.isNone then .ready else .done) jump))) C ∧ ¬ C' (w.heap.size + 1) ∧ ¬ C' w.heap.size ∧
          (∀ q, C' q ∨ q = w.heap.size + 1 → C q ∨ W.heap.size ≤ q) := fun jump C' W3 hk3 hC' => by
        have hl3 := (hk3.block _ (by rw [World.putObj_size]; omega) hl1).trans hl2'
        have := run_endRound (P := P) jump hl3
        rw [hrec] at this ⊢
        refine ⟨this, World.putObj_heap_same (Array.getElem?_eq_some_iff.1 hl3).1, (World.putObj_heap_other (by omega)).trans ((hk3.block _ (by rw [World.putObj_size]; omega) hl2).trans hk2), ?_, fun h => ?_, fun h => ?_, fun q hq => ?_⟩
        · refine ((hw2.mono (T := C) fun i _ e => (hC i).2 (.inr e)).trans (hk3.mono (T := C) fun i _ h => (hC i).2 (.inl h)) fun i _ h => h).trans ((Only.putObj _ _ _).mono (T := C) fun i _ e => (hC i).2 (.inr e)) fun i _ h => h
        · rcases hC' _ h with h | h
          · exact hl1 h
          · omega
        · rcases hC' _ h with h | h
          · exact hl2 h
          · omega
        · rcases hq with h | rfl
          · rcases hC' _ h with h | h
            · exact .inl ((hC q).2 (.inl h))
            · exact .inr h
          · exact .inl ((hC _).2 (.inr rfl))
      rintro e a3 W3 hp
      cases e with
      | normal =>
        obtain ⟨hk3, C', hC', hi3⟩ := hp
        obtain ⟨hr, hl4, hk4, ho, hc1, hc2, hq⟩ := fin none C' W3 hk3 (by simpa using hC')
        exact ⟨_, _, hr, ho, fun q => C' q ∨ q = w.heap.size + 1, hq, .inl ⟨rfl, C', fun _ => Iff.rfl, hc1, hc2, turn _ hI hc1 hi3, hl4, hk4⟩⟩
      | ret =>
        obtain ⟨hk3, C', hC', hi3⟩ := hp
        obtain ⟨hr, hl4, hk4, ho, hc1, hc2, hq⟩ := fin (some .ret) C' W3 hk3 (by simpa using hC')
        exact ⟨_, _, hr, ho, fun q => C' q ∨ q = w.heap.size + 1, hq, .inr ⟨rfl, C', fun _ => Iff.rfl, hc1, hc2, .ret, turn _ (hIx _) hc1 hi3, hl4, hk4⟩⟩
      | exit id =>
        obtain ⟨hk3, C', hC', hi3⟩ := hp
        obtain ⟨hr, hl4, hk4, ho, hc1, hc2, hq⟩ := fin (some (.exit id)) C' W3 hk3 (by simpa using hC')
        exact ⟨_, _, hr, ho, fun q => C' q ∨ q = w.heap.size + 1, hq, .inr ⟨rfl, C', fun _ => Iff.rfl, hc1, hc2, .exit id, turn _ (hIx _) hc1 hi3, hl4, hk4⟩⟩
      | goto t =>
        obtain ⟨hk3, C', hC', hi3⟩ := hp
        obtain ⟨hr, hl4, hk4, ho, hc1, hc2, hq⟩ := fin (some (.goto t)) C' W3 hk3 (by simpa using hC')
        exact ⟨_, _, hr, ho, fun q => C' q ∨ q = w.heap.size + 1, hq, .inr ⟨rfl, C', fun _ => Iff.rfl, hc1, hc2, .goto t, turn _ (hIx _) hc1 hi3, hl4, hk4⟩⟩
      | panic ch => exact hp.elim
      | outgrown => exact hp.elim
    · exact ⟨C0, fun _ => Iff.rfl, fun h => by have := hIs _ _ _ h0 _ h; omega, fun h => by have := hIs _ _ _ h0 _ h; omega, hI1, hL1, hK1⟩
    · rintro e W2 ⟨⟨v, rfl⟩, (⟨xs, C, hS, C1, hC, hc1, hc2, hi, hl, hk⟩ | ⟨pre, C, hSp, C1, hC, hc1, hc2, c, hi, hl, hk⟩)⟩
      · exact ⟨none, _, by have := run_endLoop (P := P) hl (by rw [hrec]; simp); rw [hrec] at this; exact this, hdone _ xs C1 _ (Nat.le_refl _) hS (turn _ hI hc1 hi) ((World.putObj_heap_other (by omega)).trans hk)⟩
      · exact ⟨some c, _, by have := run_endLoop (P := P) hl (by rw [hrec]; simp); rw [hrec] at this; exact this, hstop _ c pre C1 _ (Nat.le_refl _) hSp (turn _ (hIx c) hc1 hi) ((World.putObj_heap_other (by omega)).trans hk)⟩
end Go.Proofs.YtljdphpbalioaaaGreatDoor
/- A map keyed by unsigned numbers, of whatever values: its entries as a list, keys rising. No program is in sight. -/
namespace Go.Proofs.YtljdphpbalioaaaGreatDoor
open Go.RowKit Go.Maps

section
variable {α β : Type}
/-- lists of keys and what stands at them, keys rising -/
def getA (l : List (Nat × α)) (x : Nat) : Option α := (l.find? fun p => p.1 == x).map (·.2)
def insA (x : Nat × α) : List (Nat × α) → List (Nat × α)
  | [] => [x]
  | y :: r => if x.1 < y.1 then x :: y :: r else y :: insA x r
def delA (l : List (Nat × α)) (x : Nat) : List (Nat × α) := l.filter fun p => !(p.1 == x)
def putA (l : List (Nat × α)) (x : Nat) (v : α) : List (Nat × α) := insA (x, v) (delA l x)
def AscA (l : List (Nat × α)) : Prop := l.Pairwise (fun p q => p.1 < q.1) ∧ ∀ p ∈ l, p.1 < 18446744073709551616

theorem mem_insA {x p : Nat × α} : ∀ {l : List (Nat × α)}, p ∈ insA x l ↔ p = x ∨ p ∈ l
  | [] => by simp [insA]
  | y :: r => by
    unfold insA
    split
    · simp
    · simp [mem_insA (l := r)]
      constructor
      · rintro (h | h | h) <;> simp [h]
      · rintro (h | h | h) <;> simp [h]

theorem AscA.del {l : List (Nat × α)} (h : AscA l) (x : Nat) : AscA (delA l x) := ⟨h.1.filter _, fun p hp => h.2 p (List.mem_filter.1 hp).1⟩
theorem AscA.ins {l : List (Nat × α)} {x : Nat × α} (h : AscA l) (hx : ∀ p ∈ l, p.1 ≠ x.1) (h64 : x.1 < 18446744073709551616) : AscA (insA x l) := by
  refine ⟨?_, fun p hp => ?_⟩
  · have h1 := h.1
    clear h
    induction l with
    | nil => unfold insA; exact List.pairwise_singleton _ _
    | cons y r ih =>
      unfold insA
      have hy := List.pairwise_cons.1 h1
      by_cases hlt : x.1 < y.1
      · rw [if_pos hlt]
        exact List.pairwise_cons.2 ⟨fun p hp => by
          rcases List.mem_cons.1 hp with rfl | hp
          · exact hlt
          · exact Nat.lt_trans hlt (hy.1 p hp), h1⟩
      · rw [if_neg hlt]
        refine List.pairwise_cons.2 ⟨fun p hp => ?_, ih (fun p hp => hx p (List.mem_cons_of_mem _ hp)) hy.2⟩
        rcases mem_insA.1 hp with rfl | hp
        · have := hx y (List.mem_cons_self ..)
          omega
        · exact hy.1 p hp
  · rcases mem_insA.1 hp with rfl | hp
    · exact h64
    · exact h.2 p hp
theorem AscA.put {l : List (Nat × α)} (h : AscA l) (x : Nat) (v : α) (h64 : x < 18446744073709551616) : AscA (putA l x v) :=
  (h.del x).ins (fun p hp e => by have h2 := (List.mem_filter.1 hp).2; change p.1 = x at e; rw [e] at h2; simp at h2) h64
theorem AscA.nil : AscA ([] : List (Nat × α)) := ⟨List.Pairwise.nil, fun p hp => by cases hp⟩

theorem getA_mem {l : List (Nat × α)} {x : Nat} {v : α} (h : getA l x = some v) : (x, v) ∈ l := by
  unfold getA at h
  cases hf : l.find? (fun p => p.1 == x) with
  | none => rw [hf] at h; cases h
  | some p =>
    rw [hf] at h
    have h1 : p.2 = v := by simpa using h
    have h2 := List.find?_some hf
    have h3 : p.1 = x := by simpa using h2
    have := List.mem_of_find?_eq_some hf
    rw [← h1, ← h3]
    exact this
theorem getA_of_mem {l : List (Nat × α)} (h : AscA l) {p : Nat × α} (hp : p ∈ l) : getA l p.1 = some p.2 := by
  have h1 := h.1
  clear h
  induction l with
  | nil => cases hp
  | cons y r ih =>
    unfold getA
    rw [List.find?_cons]
    have hy := List.pairwise_cons.1 h1
    rcases List.mem_cons.1 hp with rfl | hp
    · simp
    · have := hy.1 p hp
      rw [show (y.1 == p.1) = false from by simp; omega]
      exact ih hp hy.2
theorem getA_none {l : List (Nat × α)} {x : Nat} : getA l x = none ↔ ∀ p ∈ l, p.1 ≠ x := by
  unfold getA
  rw [Option.map_eq_none_iff, List.find?_eq_none]
  constructor
  · intro h p hp e
    exact h p hp (by simp [e])
  · intro h p hp e
    exact h p hp (by simpa using e)
theorem getA_put_same (l : List (Nat × α)) (x : Nat) (v : α) : getA (putA l x v) x = some v := by
  unfold putA
  have hd : ∀ p ∈ delA l x, p.1 ≠ x := fun p hp e => by have h2 := (List.mem_filter.1 hp).2; rw [e] at h2; simp at h2
  generalize delA l x = m at hd
  induction m with
  | nil => simp [insA, getA]
  | cons y r ih =>
    unfold insA getA
    split
    · simp
    · rw [List.find?_cons, show (y.1 == x) = false from by simpa using hd y (List.mem_cons_self ..)]
      exact ih fun p hp => hd p (List.mem_cons_of_mem _ hp)
theorem getA_ins_other (m : List (Nat × α)) (x y : Nat) (v : α) (h : y ≠ x) : getA (insA (x, v) m) y = getA m y := by
  induction m with
  | nil => unfold insA getA; rw [List.find?_cons, show (x == y) = false from by simp; omega]
  | cons z r ih =>
    unfold insA
    split
    · unfold getA
      rw [List.find?_cons, show (x == y) = false from by simp; omega]
    · unfold getA at ih ⊢
      rw [List.find?_cons, List.find?_cons]
      cases z.1 == y with
      | true => rfl
      | false => exact ih
theorem getA_del_other (l : List (Nat × α)) (x y : Nat) (h : y ≠ x) : getA (delA l x) y = getA l y := by
  unfold getA delA
  induction l with
  | nil => rfl
  | cons z r ih =>
    rw [List.filter_cons]
    by_cases hz : z.1 = x
    · rw [if_neg (by simp [hz]), ih, List.find?_cons, show (z.1 == y) = false from by simp; omega]
    · rw [if_pos (by simpa using hz), List.find?_cons, List.find?_cons]
      cases z.1 == y with
      | true => rfl
      | false => exact ih
theorem getA_put_other (l : List (Nat × α)) (x y : Nat) (v : α) (h : y ≠ x) : getA (putA l x v) y = getA l y := by
  unfold putA
  rw [getA_ins_other _ _ _ _ h, getA_del_other _ _ _ h]
theorem getA_del_same (l : List (Nat × α)) (x : Nat) : getA (delA l x) x = none :=
  getA_none.2 fun p hp e => by have h2 := (List.mem_filter.1 hp).2; rw [e] at h2; simp at h2
theorem delA_not (l : List (Nat × α)) (x : Nat) (h : getA l x = none) : delA l x = l := by
  have h1 := getA_none.1 h
  unfold delA
  exact List.filter_eq_self.2 fun p hp => by simpa using h1 p hp
theorem length_insA (x : Nat × α) : ∀ l : List (Nat × α), (insA x l).length = l.length + 1
  | [] => rfl
  | y :: r => by
    unfold insA
    split
    · rfl
    · rw [List.length_cons, length_insA x r]; rfl
theorem length_del_some {l : List (Nat × α)} (h : AscA l) {x : Nat} {v : α} (hx : getA l x = some v) : (delA l x).length + 1 = l.length := by
  have h1 := h.1
  clear h
  induction l with
  | nil => cases hx
  | cons y r ih =>
    have hy := List.pairwise_cons.1 h1
    unfold delA
    rw [List.filter_cons]
    by_cases hz : y.1 = x
    · rw [if_neg (by simp [hz])]
      have hr : r.filter (fun p => !(p.1 == x)) = r := List.filter_eq_self.2 fun p hp => by
        have := hy.1 p hp
        simp
        omega
      rw [hr]
      rfl
    · rw [if_pos (by simpa using hz), List.length_cons, List.length_cons]
      have hx' : getA r x = some v := by
        unfold getA at hx ⊢
        rw [List.find?_cons, show (y.1 == x) = false from by simpa using hz] at hx
        exact hx
      exact congrArg (· + 1) (ih hx' hy.2)

/-- two lists with the same keys, and what stands at them in step -/
inductive StepA (R : α → β → Prop) : List (Nat × α) → List (Nat × β) → Prop
  | nil : StepA R [] []
  | cons {p : Nat × α} {q : Nat × β} {l : List (Nat × α)} {m : List (Nat × β)} (h : p.1 = q.1 ∧ R p.2 q.2) (hl : StepA R l m) : StepA R (p :: l) (q :: m)
theorem StepA.mono {R S : α → β → Prop} {l : List (Nat × α)} {m : List (Nat × β)} (h : StepA R l m) (hRS : ∀ a b, R a b → S a b) : StepA S l m := by
  induction h with
  | nil => exact .nil
  | cons h _ ih => exact .cons ⟨h.1, hRS _ _ h.2⟩ ih
theorem StepA.length {R : α → β → Prop} {l : List (Nat × α)} {m : List (Nat × β)} (h : StepA R l m) : l.length = m.length := by
  induction h with
  | nil => rfl
  | cons _ _ ih => rw [List.length_cons, List.length_cons, ih]
theorem StepA.get {R : α → β → Prop} {l : List (Nat × α)} {m : List (Nat × β)} (h : StepA R l m) (x : Nat) : (getA l x = none ∧ getA m x = none) ∨ ∃ a b, getA l x = some a ∧ getA m x = some b ∧ R a b := by
  induction h with
  | nil => exact .inl ⟨rfl, rfl⟩
  | @cons p q l m h _ ih =>
    unfold getA at ih ⊢
    rw [List.find?_cons, List.find?_cons, ← h.1]
    cases hb : p.1 == x with
    | true => exact .inr ⟨_, _, rfl, rfl, h.2⟩
    | false => exact ih
theorem StepA.del {R : α → β → Prop} {l : List (Nat × α)} {m : List (Nat × β)} (h : StepA R l m) (x : Nat) : StepA R (delA l x) (delA m x) := by
  unfold delA
  induction h with
  | nil => exact .nil
  | @cons p q l m h _ ih =>
    rw [List.filter_cons, List.filter_cons, ← h.1]
    split
    · exact .cons h ih
    · exact ih
theorem StepA.ins {R : α → β → Prop} {l : List (Nat × α)} {m : List (Nat × β)} (h : StepA R l m) (x : Nat) {a : α} {b : β} (hab : R a b) : StepA R (insA (x, a) l) (insA (x, b) m) := by
  induction h with
  | nil => exact .cons ⟨rfl, hab⟩ .nil
  | @cons p q l m h hl ih =>
    unfold insA
    rw [← h.1]
    split
    · exact .cons ⟨rfl, hab⟩ (.cons h hl)
    · exact .cons h ih
theorem StepA.put {R : α → β → Prop} {l : List (Nat × α)} {m : List (Nat × β)} (h : StepA R l m) (x : Nat) {a : α} {b : β} (hab : R a b) : StepA R (putA l x a) (putA m x b) := (h.del x).ins x hab
theorem StepA.asc {R : α → β → Prop} {l : List (Nat × α)} {m : List (Nat × β)} (h : StepA R l m) (ha : AscA l) : AscA m := by
  have hk : m.map (·.1) = l.map (·.1) := by
    clear ha
    induction h with
    | nil => rfl
    | cons h _ ih => rw [List.map_cons, List.map_cons, ih, h.1]
  have h1 : (l.map (·.1)).Pairwise (· < ·) := List.pairwise_map.2 ha.1
  rw [← hk] at h1
  refine ⟨List.pairwise_map.1 h1, fun q hq => ?_⟩
  have : q.1 ∈ l.map (·.1) := by rw [← hk]; exact List.mem_map_of_mem hq
  obtain ⟨p, hp, he⟩ := List.mem_map.1 this
  rw [← he]
  exact ha.2 p hp
end

/-! the map's datum -/
def rawE (v : Value) : Option (DataW Value × List MemPlace) := some (.held v, [])
def kU (x : Nat) : Lit := .int .u64 x
def entU (l : List (Nat × Value)) : List (Lit × DataW Value) := l.map fun p => (kU p.1, .held p.2)
def dU (l : List (Nat × Value)) : DataW Value := .map (entU l)

theorem kU_same (a b : Nat) : (kU a).sameKey (kU b) = (a == b) := by
  unfold kU Lit.sameKey
  rw [Bool.eq_iff_iff]
  simp
  omega
theorem kU_before (a b : Nat) : (kU a).before (kU b) = decide (a < b) := by
  unfold kU Lit.before
  simp
theorem insert_entU (x : Nat) (v : Value) : ∀ l : List (Nat × Value), DataW.insert (kU x, .held v) (entU l) = entU (insA (x, v) l)
  | [] => rfl
  | y :: r => by
    show DataW.insert (kU x, .held v) ((kU y.1, .held y.2) :: entU r) = _
    unfold DataW.insert insA
    rw [kU_before]
    by_cases h : x < y.1
    · rw [if_pos (by simpa using h), if_pos h]; rfl
    · rw [if_neg (by simpa using h), if_neg h, insert_entU x v r]; rfl
theorem filter_entU (l : List (Nat × Value)) (x : Nat) : (entU l).filter (fun p => !p.1.sameKey (kU x)) = entU (delA l x) := by
  unfold entU delA
  rw [List.filter_map]
  congr 1
  refine List.filter_congr fun p _ => ?_
  show (!(kU p.1).sameKey (kU x)) = _
  rw [kU_same]
theorem put_dU (l : List (Nat × Value)) (x : Nat) (v : Value) : (dU l).put (kU x) (.held v) = dU (putA l x v) := by
  show DataW.map (DataW.insert (kU x, .held v) ((entU l).filter _)) = _
  rw [filter_entU, insert_entU]
  rfl
theorem del_dU (l : List (Nat × Value)) (x : Nat) : (dU l).del (kU x) = dU (delA l x) := by
  show DataW.map ((entU l).filter _) = _
  rw [filter_entU]
  rfl
theorem find_entU (l : List (Nat × Value)) (x : Nat) : (entU l).find? (fun p => p.1.sameKey (kU x)) = (l.find? fun p => p.1 == x).map fun p => (kU p.1, .held p.2) := by
  unfold entU
  rw [List.find?_map]
  congr 2
  funext p
  exact kU_same p.1 x
theorem has_dU (l : List (Nat × Value)) (x : Nat) : Maps.has (dU l) (kU x) = (getA l x).isSome := by
  show (entU l).any (fun p => p.1.sameKey (kU x)) = _
  unfold getA
  rw [Option.isSome_map, ← List.isSome_find?, find_entU, Option.isSome_map]
theorem atKey_dU (l : List (Nat × Value)) (x : Nat) (z : Value) : (dU l).atKey (kU x) (.held z) = .held ((getA l x).getD z) := by
  unfold dU DataW.atKey getA
  simp only [find_entU]
  cases l.find? fun p => p.1 == x <;> rfl
theorem size_dU (l : List (Nat × Value)) : Maps.size (dU l) = l.length := by
  show (entU l).length = _
  unfold entU
  rw [List.length_map]

/-- block b is a map of just these entries -/
def MapU (P : Program) (k : TypeId) (w : World) (b : Nat) (l : List (Nat × Value)) : Prop := w.ownsMap P k rawE b l.length (dU l) ∧ AscA l

theorem ownsMap_exact {P : Program} {k : TypeId} {w : World} {b n : Nat} {l : List (Nat × Value)} (h : w.ownsMap P k rawE b n (dU l)) : w.ownsMap P k rawE b l.length (dU l) := by
  obtain ⟨es, clock, hb, F, -, hD⟩ := h
  refine ⟨es, clock, hb, F, ?_, hD⟩
  have h1 := congrArg Maps.size hD
  rw [size_dU] at h1
  have h2 : Maps.size (DataW.map ((es.toList.map (Go.WideElems.rg P k rawE)).foldr DataW.insert [])) = es.size := by
    show (List.foldr DataW.insert [] (es.toList.map (Go.WideElems.rg P k rawE))).length = es.size
    rw [length_sorted]
    simp
  omega

section
variable {P : Program} {k e t : TypeId} {w w' : World} {b : Nat} {l : List (Nat × Value)}
theorem MapU.lt (h : MapU P k w b l) : b < w.heap.size := h.1.lt
theorem MapU.only {S : Nat → Prop} (h : MapU P k w b l) (ho : Only w w' S) (hs : ¬ S b) : MapU P k w' b l := by
  obtain ⟨es, clock, hb, F, hn, hD⟩ := h.1
  exact ⟨⟨es, clock, (ho.block b h.lt hs).trans hb, F, hn, hD⟩, h.2⟩
theorem MapU.below (h : MapU P k w b l) (hb : Below w.heap.size w w') : MapU P k w' b l := h.only (Only.of_below hb fun _ => False) fun h => h
theorem MapU.new (w : World) : MapU P k (w.alloc (.map #[] 0)) w.heap.size [] := ⟨World.ownsMap_made w P k rawE, AscA.nil⟩

theorem keyU (hk : P.underlying k = some (.int .u64)) (x : Nat) (hx : x < 18446744073709551616) : keyOf P k (.int .u64 x) = some (kU x) := keyOf_int_mk hk (by simp [Lit.wf, IntKind.min, IntKind.max, IntKind.signed, IntKind.bits]; omega)

/-- 'v, ok := m[x]' -/
theorem MapU.look (h : MapU P k w b l) (hk : P.underlying k = some (.int .u64)) (ht : P.underlying t = some (.map k e)) {z : Value} (hz : (zeroValue e).run P w = .ok z w) (x : Nat) (hx : x < 18446744073709551616) :
    (Instr.lookup t (.map (some b)) (.int .u64 x) true).run P w = .ok (.tuple #[(getA l x).getD z, .bool (getA l x).isSome]) w := by
  obtain ⟨v, ps, hrun, hv⟩ := h.1.look_ok (int_keyed hk) ht hz (zd := .held z) (zp := []) rfl (keyU hk x hx)
  rw [atKey_dU, has_dU] at *
  cases hv
  exact hrun
/-- 'm[x]' -/
theorem MapU.look1 (h : MapU P k w b l) (hk : P.underlying k = some (.int .u64)) (ht : P.underlying t = some (.map k e)) {z : Value} (hz : (zeroValue e).run P w = .ok z w) (x : Nat) (hx : x < 18446744073709551616) :
    (Instr.lookup t (.map (some b)) (.int .u64 x) false).run P w = .ok ((getA l x).getD z) w := by
  obtain ⟨v, ps, hrun, hv⟩ := h.1.lookup (int_keyed hk) ht hz (zd := .held z) (zp := []) rfl (keyU hk x hx)
  rw [atKey_dU] at hv
  cases hv
  exact hrun
theorem turned_size (h : w.mapTurned w' b) : w'.heap.size = w.heap.size := by
  obtain ⟨_, _, _, _, _, rfl⟩ := h
  simp [Go.ChangeMaps.setBlock]
/-- 'm[x] = v' -/
theorem MapU.store (h : MapU P k w b l) (hk : P.underlying k = some (.int .u64)) (ht : P.underlying t = some (.map k e)) (x : Nat) (hx : x < 18446744073709551616) (v : Value) (hl : l.length < maxLen) :
    ∃ w', (Instr.mapUpdate t (.map (some b)) (.int .u64 x) v).run P w = .ok () w' ∧ MapU P k w' b (putA l x v) ∧ Only w w' (fun q => q = b) ∧ w'.heap.size = w.heap.size := by
  obtain ⟨w', hrun, h1, h2⟩ := h.1.store (int_keyed hk) ht hl (keyU hk x hx) (val := v) (d := .held v) (ps := []) rfl
  rw [put_dU] at h1
  have ho := Only.of_grown h2.grown
  exact ⟨w', hrun, ⟨ownsMap_exact h1, h.2.put x v hx⟩, ho.mono (fun i _ e => by cases e; rfl), turned_size h2⟩
/-- 'delete(m, x)' -/
theorem MapU.drop (h : MapU P k w b l) (hk : P.underlying k = some (.int .u64)) (ht : P.underlying t = some (.map k e)) (x : Nat) (hx : x < 18446744073709551616) (ty : TypeId) :
    ∃ w', (Builtin.delete_ #[t, k] ty #[.map (some b), .int .u64 x]).run P w = .ok (.tuple #[]) w' ∧ MapU P k w' b (delA l x) ∧ Only w w' (fun q => q = b) ∧ w'.heap.size = w.heap.size := by
  obtain ⟨w', hrun, h1, h2⟩ := h.1.drop (int_keyed hk) ht (keyU hk x hx) ty
  rw [del_dU] at h1
  have ho := Only.of_grown h2.grown
  exact ⟨w', hrun, ⟨ownsMap_exact h1, h.2.del x⟩, ho.mono (fun i _ e => by cases e; rfl), turned_size h2⟩
/-- 'len(m)' -/
theorem MapU.len (h : MapU P k w b l) (ht : P.underlying t = some (.map k e)) (ty : TypeId) : (Builtin.len_ #[t] ty #[.map (some b)]).run P w = .ok (.int .i64 l.length) w := by
  have := h.1.len ht ty
  rwa [size_dU] at this
end
end Go.Proofs.YtljdphpbalioaaaGreatDoor
/- Slices of IDs: Clone and Index of them. -/
namespace Go.Proofs.YtljdphpbalioaaaGreatDoor
open Go.RowKit

def U64 (x : Nat) : Value := .int .u64 x
theorem U64_one (l : List Nat) : ∀ u ∈ l.map U64, u.oneCell' = true := fun u hu => by
  obtain ⟨x, -, rfl⟩ := List.mem_map.1 hu
  rfl
def Ids (w : World) (v : Value) (l : List Nat) : Prop := SliceOf (fun _ u (x : Nat) => u = U64 x) w v l
def OwnIds (base : Nat) (w : World) (v : Value) (l : List Nat) : Prop := w.ownsRow base 34 1 v l.length (l.map U64)
theorem rowI : RowTy Tryz.prog 35 34 1 8 := RowTy.mk' (z := .int .u64 0) Tryz.underlying35 (by kernel_rfl) rfl (by omega)

theorem Ids.below {w w' : World} {v : Value} {l : List Nat} (h : Ids w v l) (hb : Below w.heap.size w w') : Ids w' v l := by
  obtain ⟨a, c, rfl, hm, hc, hn, h⟩ := h
  refine ⟨a, c, rfl, hm, hc, hn, ?_⟩
  rcases h with h | ⟨g, o, ha, h⟩
  · exact .inl h
  · exact .inr ⟨g, o, ha, fun j x hx => by
      obtain ⟨u, hu, he⟩ := h j x hx
      exact ⟨u, (hb.cell (p := ⟨g, o + j, none⟩) (block_lt_of_cell hu)).trans hu, he⟩⟩
theorem Ids.only {w w' : World} {v : Value} {l : List Nat} {S : Nat → Prop} (h : Ids w v l) (ho : Only w w' S) (hs : ∀ k, S k → ∀ cs fr, w.heap[k]? ≠ some (.cells cs 34 fr)) (ht : ∀ g o n c, v = .slice (some ⟨g, o, none⟩) n c → l ≠ [] → ∃ cs fr, w.heap[g]? = some (.cells cs 34 fr)) : Ids w' v l := by
  obtain ⟨a, c, rfl, hm, hc, hn, h⟩ := h
  refine ⟨a, c, rfl, hm, hc, hn, ?_⟩
  rcases h with h | ⟨g, o, ha, h⟩
  · exact .inl h
  · by_cases hl : l = []
    · exact .inl hl
    · subst ha
      obtain ⟨cs, fr, hg⟩ := ht g o _ _ rfl hl
      refine .inr ⟨g, o, rfl, fun j x hx => ?_⟩
      obtain ⟨u, hu, he⟩ := h j x hx
      have hlt := block_lt_of_cell hu
      refine ⟨u, ?_, he⟩
      rw [← hu]
      have hb := ho.block g hlt fun hS => hs g hS cs fr hg
      unfold World.cell?
      simp only [hb]
theorem OwnIds.ids {base : Nat} {w : World} {v : Value} {l : List Nat} (h : OwnIds base w v l) : Ids w v l := by
  obtain ⟨a, c, rfl, hc, hm, hn, hl, -⟩ := ownsRow_lies h
  refine ⟨a, c, rfl, Nat.le_trans hc hm, hc, hn, ?_⟩
  rcases hl with h0 | ⟨g, o, ha, hr⟩
  · exact .inl (by simpa using h0)
  · exact .inr ⟨g, o, ha, fun j x hx => ⟨U64 x, hr j _ (by rw [List.getElem?_map, hx]; rfl), rfl⟩⟩
theorem OwnIds.base {base base' : Nat} {w : World} {v : Value} {l : List Nat} (h : OwnIds base w v l) (hb : base' ≤ base) : OwnIds base' w v l := ownsRow_base h hb
theorem OwnIds.nil (w : World) (base : Nat) : OwnIds base w (.slice none 0 0) [] := World.ownsRow_nil _ _ _ _
theorem OwnIds.slice {base : Nat} {w : World} {v : Value} {l : List Nat} (h : OwnIds base w v l) : ∃ a c, v = .slice a l.length c := by
  obtain ⟨a, c, e, -⟩ := ownsRow_lies h
  exact ⟨a, c, e⟩
theorem own_none (w : World) (T : Nat) : (w.alloc (.cells #[] T)).ownsRow w.heap.size T 1 (.slice (some ⟨w.heap.size, 0, none⟩) 0 0) 0 [] :=
  ⟨rfl, .inr ⟨_, 0, #[], rfl, Nat.le_refl _, heap_alloc_new w _, Nat.le_refl _, Nat.zero_le _, rfl, rfl⟩⟩

/-- an ID's slice, its cells -/
theorem Ids.lies {w : World} {v : Value} {l : List Nat} (h : Ids w v l) : ∃ a c, v = .slice a l.length c ∧ l.length ≤ maxLen ∧ l.length ≤ c ∧ (a = none → c = 0) ∧ Lies w a (l.map U64) := by
  obtain ⟨a, c, rfl, hm, hc, hn, h⟩ := h
  refine ⟨a, c, rfl, hm, hc, hn, ?_⟩
  rcases h with h | ⟨g, o, ha, h⟩
  · exact .inl (by rw [h]; rfl)
  · refine .inr ⟨g, o, ha, fun j u hu => ?_⟩
    rw [List.getElem?_map] at hu
    cases hx : l[j]? with
    | none => rw [hx] at hu; cases hu
    | some x =>
      rw [hx] at hu
      obtain ⟨u', hu', rfl⟩ := h j x hx
      cases hu
      exact hu'

set_option maxRecDepth 10000 in
set_option maxHeartbeats 400000 in
theorem idclone_any (v : Value) (l : List Nat) (w : World) (hv : Ids w v l) (hbig : l.length ≤ 1000000000) :
    Calls Tryz.prog 32 #[v] w fun e w' => ∃ v', e = .returned v' ∧ OwnIds w.heap.size w' v' l ∧ Below w.heap.size w w' := by
  have hb : Below w.heap.size w (w.alloc (.cells #[] 34)) := (Below.refl _ _).alloc (Nat.le_refl _) _
  obtain ⟨a, c, rfl, hm, hc, hn, hl⟩ := (hv.below hb).lies
  have hone := U64_one l
  have hll : (l.map U64).length = l.length * 1 := by simp
  obtain ⟨n, hnl⟩ : ∃ n, n = l.length := ⟨_, rfl⟩
  have HNL := Lib.hid hnl
  have HL := Lib.hid hl
  have HONE := Lib.hid hone
  have HLL := Lib.hid hll
  have HOWN := Lib.hid (own_none w 34)
  rw [← hnl] at hm hc hbig ⊢
  have he := fun (w : World) (a : Option Addr) (n c n' c' : Nat) => Lib.run_eql_slice_nil (P := Tryz.prog) w 35 34 a n c n' c' Tryz.underlying35
  clear hl hone hll
  cases a with
  | none =>
    have hc0 := hn rfl
    subst hc0
    have hp : l = [] := List.length_eq_zero_iff.1 (by omega)
    subst hp
    have hn0 : n = 0 := hnl
    subst hn0
    clear HL HONE HLL HOWN hnl hb
    go_enter Tryz.func32, Tryz.ntmps32
    go_wp2
    go_ret
    exact ⟨_, rfl, OwnIds.nil _ _, Below.refl _ _⟩
  | some ad =>
    clear hnl
    have HM := Lib.hid (And.intro hm (And.intro hc hbig))
    have HN := Lib.hid hn
    have hsz := hb.size
    go_enter Tryz.func32, Tryz.ntmps32
    go_wp2_with (at_builtin; refine wpList_app rfl _ _ 35 34 1 8 rowI rfl w.heap.size _ 0 [] rfl HOWN.out (some ad) n c (l.map U64) rfl (by rw [HNL.out]; exact HLL.out) HL.out HM.out.2.1 HN.out HONE.out (by unfold maxLen; have := HM.out.2.2; omega) (by have := HM.out.2.2; omega) hsz ?_; intro v' w1 h1 _ h3)
    go_ret
    rw [Nat.zero_add, List.nil_append, HNL.out] at h1
    exact ⟨_, rfl, h1, hb.trans h3⟩

/-- where an ID stands; below 0: nowhere -/
def idxI (l : List Nat) (x : Nat) : Int := match l.findIdx? (· == x) with | some k => (k : Int) | none => -1

theorem idxI_hit {l : List Nat} {x k : Nat} (hk : l[k]? = some x) (hb : ∀ j, j < k → l[j]? ≠ some x) : idxI l x = (k : Int) := by
  have h : l.findIdx? (· == x) = some k := by
    rw [List.findIdx?_eq_some_iff_getElem]
    have hlt := (List.getElem?_eq_some_iff.1 hk).1
    refine ⟨hlt, by rw [(List.getElem?_eq_some_iff.1 hk).2]; simp, fun j hj => ?_⟩
    have := hb j hj
    rw [List.getElem?_eq_getElem (by omega)] at this
    simpa using this
  unfold idxI
  rw [h]
theorem idxI_miss {l : List Nat} {x : Nat} (hb : ∀ j, j < l.length → l[j]? ≠ some x) : idxI l x = -1 := by
  have h : l.findIdx? (· == x) = none := by
    rw [List.findIdx?_eq_none_iff]
    intro y hy
    obtain ⟨j, hj, rfl⟩ := List.mem_iff_getElem.1 hy
    have := hb j hj
    rw [List.getElem?_eq_getElem hj] at this
    simpa using this
  unfold idxI
  rw [h]

end Go.Proofs.YtljdphpbalioaaaGreatDoor
/- Nodes; Whole: a node with kids of its own. -/
namespace Go.Proofs.YtljdphpbalioaaaGreatDoor
open Go.RowKit

structure Nd where
  kind : Nat
  name : ByteArray
  num : Int
  typ : Nat
  ref : Nat
  kids : List Nat

structure Nd.Ok (n : Nd) : Prop where
  kind : n.kind < 256
  typ : n.typ < 256
  ref : n.ref < 18446744073709551616
  num : (Lit.int .i64 n.num).wf = true
  name : n.name.size ≤ maxLen
  few : n.kids.length ≤ 1000000
  ids : ∀ x ∈ n.kids, x < 18446744073709551616

def Nd.zero : Nd := ⟨0, ⟨#[]⟩, 0, 0, 0, []⟩
theorem Nd.zero_ok : Nd.zero.Ok := ⟨by decide, by decide, by decide, by decide, Nat.zero_le _, Nat.zero_le _, fun x hx => by cases hx⟩

def NdVal (n : Nd) (kv : Value) : Value := .agg #[.int .u8 n.kind, .string n.name, .int .i64 n.num, .int .u8 n.typ, .int .u64 n.ref, kv]
/-- a node as a value; its kids in memory -/
def NdAt (w : World) (v : Value) (n : Nd) : Prop := ∃ kv, v = NdVal n kv ∧ Ids w kv n.kids ∧ n.Ok
def OwnNd (base : Nat) (w : World) (v : Value) (n : Nd) : Prop := ∃ kv, v = NdVal n kv ∧ OwnIds base w kv n.kids ∧ n.Ok
theorem OwnNd.at {base : Nat} {w : World} {v : Value} {n : Nd} (h : OwnNd base w v n) : NdAt w v n := by
  obtain ⟨kv, rfl, h1, h2⟩ := h
  exact ⟨kv, rfl, h1.ids, h2⟩
theorem OwnNd.base {base base' : Nat} {w : World} {v : Value} {n : Nd} (h : OwnNd base w v n) (hb : base' ≤ base) : OwnNd base' w v n := by
  obtain ⟨kv, rfl, h1, h2⟩ := h
  exact ⟨kv, rfl, h1.base hb, h2⟩
theorem NdAt.below {w w' : World} {v : Value} {n : Nd} (h : NdAt w v n) (hb : Below w.heap.size w w') : NdAt w' v n := by
  obtain ⟨kv, rfl, h1, h2⟩ := h
  exact ⟨kv, rfl, h1.below hb, h2⟩
theorem OwnNd.zero (base : Nat) (w : World) : OwnNd base w (NdVal .zero (.slice none 0 0)) .zero := ⟨_, rfl, OwnIds.nil _ _, Nd.zero_ok⟩
theorem zeroNd (w : World) : (zeroValue 37).run Tryz.prog w = .ok (NdVal .zero (.slice none 0 0)) w := by kernel_rfl

theorem own_kept {e : TypeId} {base : Nat} {w w' : World} {v : Value} {n : Nat} {xs : List Value} {S : Nat → Prop} (h : w.ownsRow base e 1 v n xs) (ho : Only w w' S) (hs : ∀ k, S k → ∀ cs fr, w.heap[k]? ≠ some (.cells cs e fr)) : w'.ownsRow base e 1 v n xs := by
  refine ⟨h.1, ?_⟩
  rcases h.2 with h2 | ⟨g, cap, cur, rfl, hb, hg, h3⟩
  · exact .inl h2
  · exact .inr ⟨g, cap, cur, rfl, hb, (ho.block g (Array.getElem?_eq_some_iff.1 hg).1 fun hS => hs g hS _ _ hg).trans hg, h3⟩
theorem OwnIds.only {base : Nat} {w w' : World} {v : Value} {l : List Nat} {S : Nat → Prop} (h : OwnIds base w v l) (ho : Only w w' S) (hs : ∀ k, S k → ∀ cs fr, w.heap[k]? ≠ some (.cells cs 34 fr)) : OwnIds base w' v l := own_kept h ho hs
theorem OwnNd.only {base : Nat} {w w' : World} {v : Value} {n : Nd} {S : Nat → Prop} (h : OwnNd base w v n) (ho : Only w w' S) (hs : ∀ k, S k → ∀ cs fr, w.heap[k]? ≠ some (.cells cs 34 fr)) : OwnNd base w' v n := by
  obtain ⟨kv, rfl, h1, h2⟩ := h
  exact ⟨kv, rfl, h1.only ho hs, h2⟩
theorem OwnNd.below {base : Nat} {w w' : World} {v : Value} {n : Nd} (h : OwnNd base w v n) (hb : Below w.heap.size w w') : OwnNd base w' v n := h.only (Only.of_below hb fun _ => False) fun _ h => h.elim
theorem OwnIds.below {base : Nat} {w w' : World} {v : Value} {l : List Nat} (h : OwnIds base w v l) (hb : Below w.heap.size w w') : OwnIds base w' v l := h.only (Only.of_below hb fun _ => False) fun _ h => h.elim

/-- six cells that hold a node -/
def Row6 (w : World) (g : Nat) (n : Nd) (kv : Value) : Prop := w.heap[g]? = some (.cells #[.int .u8 n.kind, .string n.name, .int .i64 n.num, .int .u8 n.typ, .int .u64 n.ref, kv] 37 (0, 0))
theorem Row6.lt {w : World} {g : Nat} {n : Nd} {kv : Value} (h : Row6 w g n kv) : g < w.heap.size := (Array.getElem?_eq_some_iff.1 h).1
theorem Row6.below {w w' : World} {g : Nat} {n : Nd} {kv : Value} (h : Row6 w g n kv) (hb : Below w.heap.size w w') : Row6 w' g n kv := (hb.block g h.lt).trans h
theorem Row6.only {w w' : World} {g : Nat} {n : Nd} {kv : Value} {S : Nat → Prop} (h : Row6 w g n kv) (ho : Only w w' S) (hs : ¬ S g) : Row6 w' g n kv := (ho.block g h.lt hs).trans h
theorem Row6.c0 {w : World} {g : Nat} {n : Nd} {kv : Value} (h : Row6 w g n kv) : w.cell? ⟨g, 0, none⟩ = some (.int .u8 n.kind) := cell_of_row w g 0 _ _ _ h
theorem Row6.c1 {w : World} {g : Nat} {n : Nd} {kv : Value} (h : Row6 w g n kv) : w.cell? ⟨g, 1, none⟩ = some (.string n.name) := cell_of_row w g 1 _ _ _ h
theorem Row6.c2 {w : World} {g : Nat} {n : Nd} {kv : Value} (h : Row6 w g n kv) : w.cell? ⟨g, 2, none⟩ = some (.int .i64 n.num) := cell_of_row w g 2 _ _ _ h
theorem Row6.c3 {w : World} {g : Nat} {n : Nd} {kv : Value} (h : Row6 w g n kv) : w.cell? ⟨g, 3, none⟩ = some (.int .u8 n.typ) := cell_of_row w g 3 _ _ _ h
theorem Row6.c4 {w : World} {g : Nat} {n : Nd} {kv : Value} (h : Row6 w g n kv) : w.cell? ⟨g, 4, none⟩ = some (.int .u64 n.ref) := cell_of_row w g 4 _ _ _ h
theorem Row6.c5 {w : World} {g : Nat} {n : Nd} {kv : Value} (h : Row6 w g n kv) : w.cell? ⟨g, 5, none⟩ = some kv := cell_of_row w g 5 _ _ _ h
theorem Row6.fz {w : World} {g : Nat} {n : Nd} {kv : Value} (h : Row6 w g n kv) (i : Nat) : w.frozen? ⟨g, i, none⟩ = false := frozen_of_row w g i _ _ h
theorem Row6.put {w : World} {g : Nat} {n : Nd} {kv : Value} (h : Row6 w g n kv) (m : Nd) (u : Value) :
    Row6 ((((((w.setCell ⟨g, 0, none⟩ (.int .u8 m.kind)).setCell ⟨g, 1, none⟩ (.string m.name)).setCell ⟨g, 2, none⟩ (.int .i64 m.num)).setCell ⟨g, 3, none⟩ (.int .u8 m.typ)).setCell ⟨g, 4, none⟩ (.int .u64 m.ref)).setCell ⟨g, 5, none⟩ u) g m u :=
  heap_setCell_same _ g 5 _ _ u (heap_setCell_same _ g 4 _ _ (.int .u64 m.ref) (heap_setCell_same _ g 3 _ _ (.int .u8 m.typ) (heap_setCell_same _ g 2 _ _ (.int .i64 m.num) (heap_setCell_same _ g 1 _ _ (.string m.name) (heap_setCell_same _ g 0 _ _ (.int .u8 m.kind) h)))))
theorem put6_below {w w0 : World} {B g : Nat} (h : Below B w0 w) (hg : B ≤ g) (m : Nd) (u : Value) :
    Below B w0 ((((((w.setCell ⟨g, 0, none⟩ (.int .u8 m.kind)).setCell ⟨g, 1, none⟩ (.string m.name)).setCell ⟨g, 2, none⟩ (.int .i64 m.num)).setCell ⟨g, 3, none⟩ (.int .u8 m.typ)).setCell ⟨g, 4, none⟩ (.int .u64 m.ref)).setCell ⟨g, 5, none⟩ u) :=
  (((((h.setCell hg _).setCell hg _).setCell hg _).setCell hg _).setCell hg _).setCell hg _

theorem put6_only (w : World) (g : Nat) (m : Nd) (u : Value) :
    Only w ((((((w.setCell ⟨g, 0, none⟩ (.int .u8 m.kind)).setCell ⟨g, 1, none⟩ (.string m.name)).setCell ⟨g, 2, none⟩ (.int .i64 m.num)).setCell ⟨g, 3, none⟩ (.int .u8 m.typ)).setCell ⟨g, 4, none⟩ (.int .u64 m.ref)).setCell ⟨g, 5, none⟩ u) (fun k => k = g) := by
  have s : ∀ (x : World) (i : Nat) (v : Value), Only x (x.setCell ⟨g, i, none⟩ v) (fun k => k = g) := fun x i v => Only.setCell x ⟨g, i, none⟩ v
  exact (((((s _ _ _).trans (s _ _ _) fun _ _ h => h).trans (s _ _ _) fun _ _ h => h).trans (s _ _ _) fun _ _ h => h).trans (s _ _ _) fun _ _ h => h).trans (s _ _ _) fun _ _ h => h

theorem two_new (w : World) (o1 o2 : Obj) : ((w.alloc o1).alloc o2).heap[w.heap.size]? = some o1 ∧ ((w.alloc o1).alloc o2).heap[w.heap.size + 1]? = some o2 := by
  have h2 := (MapKept.heap_alloc (w.alloc o1) o2)
  have h1 := (MapKept.heap_alloc w o1)
  have hs : (w.alloc o1).heap.size = w.heap.size + 1 := by simp
  exact ⟨(h2.2 _ (by rw [hs]; omega)).trans h1.1, by rw [← hs]; exact h2.1⟩

set_option maxRecDepth 10000 in
set_option maxHeartbeats 800000 in
theorem whole_any (v : Value) (n : Nd) (w : World) (hv : NdAt w v n) :
    Calls Tryz.prog 21 #[v] w fun e w' => ∃ v', e = .returned v' ∧ OwnNd w.heap.size w' v' n ∧ Below w.heap.size w w' := by
  obtain ⟨kv, rfl, hk, ok⟩ := hv
  obtain ⟨a, c, rfl, -⟩ := id hk
  have HK := Lib.hid hk
  have HOK := Lib.hid ok
  unfold NdVal
  obtain ⟨L, hL⟩ : ∃ L, L = n.kids.length := ⟨_, rfl⟩
  rw [← hL] at HK ⊢
  clear hk ok hL
  go_enter Tryz.func21, Tryz.ntmps21
  go_upto_region 1 with fail
  have hb0 := bal (bal (bre w) (.cells #[.int .u8 n.kind, .string n.name, .int .i64 n.num, .int .u8 n.typ, .int .u64 n.ref, .slice a L c] 37)) (.cells #[.int .u8 0, .string ⟨#[]⟩, .int .i64 0, .int .u8 0, .int .u64 0, .slice none 0 0] 37)
  obtain ⟨hr1, hr2⟩ := two_new w (.cells #[.int .u8 n.kind, .string n.name, .int .i64 n.num, .int .u8 n.typ, .int .u64 n.ref, .slice a L c] 37) (.cells #[.int .u8 0, .string ⟨#[]⟩, .int .i64 0, .int .u8 0, .int .u64 0, .slice none 0 0] 37)
  generalize (w.alloc (.cells #[.int .u8 n.kind, .string n.name, .int .i64 n.num, .int .u8 n.typ, .int .u64 n.ref, .slice a L c] 37)).alloc (.cells #[.int .u8 0, .string ⟨#[]⟩, .int .i64 0, .int .u8 0, .int .u64 0, .slice none 0 0] 37) = W at *
  obtain ⟨n1, hn1⟩ : ∃ n, n = w.heap.size := ⟨_, rfl⟩
  rw [← hn1] at hr1 hr2 ⊢
  obtain ⟨n2, hn2⟩ : ∃ n, n = n1 + 1 := ⟨_, rfl⟩
  rw [← hn2] at hr2
  try rw [← hn2]
  have hR1 : Row6 W n1 n (.slice a L c) := hr1
  have hR2 : Row6 W n2 .zero (.slice none 0 0) := hr2
  have HB0 := Lib.hid hb0
  have HR1 := Lib.hid hR1
  have HR2 := Lib.hid hR2
  have HN1 : Hid (w.heap.size ≤ n1) := Lib.hid (by omega)
  have HN2 : Hid (w.heap.size ≤ n2) := Lib.hid (by omega)
  have hne : ¬ n2 = n1 := by omega
  have HNE := Lib.hid hne
  have y5 := hR1.c5
  clear hb0 hr1 hr2 hR1 hR2 hn1 hn2 hne
  go_wp2_with fail
  refine (idclone_any _ n.kids W (HK.out.below HB0.out) (by have := HOK.out.few; omega)).mono ?_
  rintro e w1 ⟨v1, rfl, ho1, hb1⟩
  obtain ⟨a1, c1, rfl⟩ := ho1.slice
  have HO1 := Lib.hid ho1
  have HB1 := Lib.hid (btr HB0.out hb1)
  have HS := Lib.hid hb1.size
  have HR11 := Lib.hid (HR1.out.below hb1)
  have HR12 := Lib.hid (HR2.out.below hb1)
  have z5 := HR11.out.c5
  have zf := HR11.out.fz
  clear ho1 hb1 y5
  go_upto_region 2 with fail
  have hr3 : Row6 (w1.setCell ⟨n1, 5, none⟩ (.slice a1 n.kids.length c1)) n1 n (.slice a1 n.kids.length c1) := heap_setCell_same w1 n1 5 _ _ _ HR11.out
  have hr4 : Row6 (w1.setCell ⟨n1, 5, none⟩ (.slice a1 n.kids.length c1)) n2 .zero (.slice none 0 0) := HR12.out.only (Only.setCell w1 ⟨n1, 5, none⟩ _) HNE.out
  have hb3 : Below w.heap.size w (w1.setCell ⟨n1, 5, none⟩ (.slice a1 n.kids.length c1)) := HB1.out.setCell HN1.out _
  have ho3 := HO1.out.only (Only.setCell w1 ⟨n1, 5, none⟩ (.slice a1 n.kids.length c1)) (fun k hk cs fr e => by cases hk; rw [HR11.out] at e; cases e)
  generalize w1.setCell ⟨n1, 5, none⟩ (.slice a1 n.kids.length c1) = w3 at *
  have HR3 := Lib.hid hr3
  have HR4 := Lib.hid hr4
  have HB3 := Lib.hid hb3
  have HO3 := Lib.hid ho3
  have q0 := hr3.c0
  have q1 := hr3.c1
  have q2 := hr3.c2
  have q3 := hr3.c3
  have q4 := hr3.c4
  have q5 := hr3.c5
  have p0 := hr4.c0
  have p1 := hr4.c1
  have p2 := hr4.c2
  have p3 := hr4.c3
  have p4 := hr4.c4
  have p5 := hr4.c5
  have pf := hr4.fz
  clear hr3 hr4 hb3 ho3 z5 zf HR11 HR12 HO1 HB1
  go_wp2_with fail
  have hrow := HR4.out.put n (.slice a1 n.kids.length c1)
  have hbel := put6_below HB3.out HN2.out n (.slice a1 n.kids.length c1)
  have hown := HO3.out.only (put6_only w3 n2 n (.slice a1 n.kids.length c1)) (fun k hk cs fr e => by cases hk; rw [HR4.out] at e; cases e)
  generalize (((((w3.setCell ⟨n2, 0, none⟩ (.int .u8 n.kind)).setCell ⟨n2, 1, none⟩ (.string n.name)).setCell ⟨n2, 2, none⟩ (.int .i64 n.num)).setCell ⟨n2, 3, none⟩ (.int .u8 n.typ)).setCell ⟨n2, 4, none⟩ (.int .u64 n.ref)).setCell ⟨n2, 5, none⟩ (.slice a1 n.kids.length c1) = W9 at *
  have d0 := hrow.c0
  have d1 := hrow.c1
  have d2 := hrow.c2
  have d3 := hrow.c3
  have d4 := hrow.c4
  have d5 := hrow.c5
  refine bodyPost_ret (v := NdVal n (.slice a1 n.kids.length c1)) (by simp [results, Tryz.results21, go_sem, d0, d1, d2, d3, d4, d5, NdVal]) rfl ?_
  exact ⟨_, rfl, ⟨_, rfl, hown.base (Nat.le_trans HB0.out.size (Nat.le_refl _)), HOK.out⟩, hbel⟩
end Go.Proofs.YtljdphpbalioaaaGreatDoor
