/- Merged: Pg Varint Writer WNum WRest Reader TRNum TRRest SizesP Number Dec RlCut PgParse RlScan RlInv RlStep. -/
import Derived.Test.YtacfkhnajdneeaaDoorPreA
import Derived.Test.YtacfkhnajdneeaaDoorChecked
import Derived.Deep.DeepCutAuto
/- Pages, plainly. -/
namespace Go.Proofs.YtacfkhnajdneeaaDoor

structure Pg where
  gen : Nat
  serial : Nat
  number : Nat
  kind : Nat
  data : List UInt8

structure Pg.Ok (p : Pg) : Prop where
  gen : p.gen < 4294967296
  serial : p.serial < 4294967296
  number : p.number < 4294967296
  kind : p.kind < 256

def be4 (n : Nat) : List UInt8 := [UInt8.ofNat (n / 16777216 % 256), UInt8.ofNat (n / 65536 % 256), UInt8.ofNat (n / 256 % 256), UInt8.ofNat (n % 256)]
def be2 (n : Nat) : List UInt8 := [UInt8.ofNat (n / 256 % 256), UInt8.ofNat (n % 256)]
def mark : List UInt8 := [104, 103]
def Pg.head (p : Pg) : List UInt8 := mark ++ be4 p.gen ++ be4 p.serial ++ be4 p.number ++ [UInt8.ofNat p.kind] ++ be2 p.data.length
def Pg.raw (p : Pg) : List UInt8 := p.head ++ p.data ++ List.replicate (491 - p.data.length) 0
def seal8 (l : List UInt8) : List UInt8 := l ++ lows (crc8 l)
def val (l : List UInt8) : Nat := l.foldl (fun n b => 256 * n + b.toNat) 0
def lenOf (q : List UInt8) : Nat := val ((q.drop 15).take 2)
def pgOf (q : List UInt8) : Pg := ⟨val ((q.drop 2).take 4), val ((q.drop 6).take 4), val ((q.drop 10).take 4), (q.getD 14 0).toNat, (q.drop 17).take (lenOf q)⟩
def Pg.zero : Pg := ⟨0, 0, 0, 0, []⟩

theorem head_length (p : Pg) : p.head.length = 17 := rfl
theorem raw_length (p : Pg) (h : p.data.length ≤ 491) : p.raw.length = 508 := by
  unfold Pg.raw
  rw [List.length_append, List.length_append, head_length, List.length_replicate]; omega
theorem lows_length (n : Nat) : (lows n).length = 4 := rfl
theorem seal_length (l : List UInt8) : (seal8 l).length = l.length + 4 := by unfold seal8; rw [List.length_append, lows_length]

theorem ofNat_toNat8 (b : UInt8) : UInt8.ofNat b.toNat = b := by simp
theorem toNat_ofNat8 (n : Nat) (h : n < 256) : (UInt8.ofNat n).toNat = n := ofNat_lt n h

theorem val4 (a b c d : UInt8) : val [a, b, c, d] = a.toNat * 16777216 + b.toNat * 65536 + c.toNat * 256 + d.toNat := by
  show 256 * (256 * (256 * (256 * 0 + a.toNat) + b.toNat) + c.toNat) + d.toNat = _
  omega
theorem val2 (a b : UInt8) : val [a, b] = a.toNat * 256 + b.toNat := by
  show 256 * (256 * 0 + a.toNat) + b.toNat = _
  omega

theorem be4_val (a b c d : UInt8) : be4 (val [a, b, c, d]) = [a, b, c, d] := by
  have ha := a.toNat_lt
  have hb := b.toNat_lt
  have hc := c.toNat_lt
  have hd := d.toNat_lt
  rw [val4]
  unfold be4
  rw [show (a.toNat * 16777216 + b.toNat * 65536 + c.toNat * 256 + d.toNat) / 16777216 % 256 = a.toNat by omega,
    show (a.toNat * 16777216 + b.toNat * 65536 + c.toNat * 256 + d.toNat) / 65536 % 256 = b.toNat by omega,
    show (a.toNat * 16777216 + b.toNat * 65536 + c.toNat * 256 + d.toNat) / 256 % 256 = c.toNat by omega,
    show (a.toNat * 16777216 + b.toNat * 65536 + c.toNat * 256 + d.toNat) % 256 = d.toNat by omega]
  simp
theorem be2_val (a b : UInt8) : be2 (val [a, b]) = [a, b] := by
  have ha := a.toNat_lt
  have hb := b.toNat_lt
  rw [val2]
  unfold be2
  rw [show (a.toNat * 256 + b.toNat) / 256 % 256 = a.toNat by omega, show (a.toNat * 256 + b.toNat) % 256 = b.toNat by omega]
  simp
theorem val_be4 (n : Nat) (h : n < 4294967296) : val (be4 n) = n := by
  unfold be4
  rw [val4, toNat_ofNat8 _ (by omega), toNat_ofNat8 _ (by omega), toNat_ofNat8 _ (by omega), toNat_ofNat8 _ (by omega)]
  omega
theorem val_be2 (n : Nat) (h : n < 65536) : val (be2 n) = n := by
  unfold be2
  rw [val2, toNat_ofNat8 _ (by omega), toNat_ofNat8 _ (by omega)]
  omega

/-- a text of 508 bytes, its head laid open -/
theorem open17 (q : List UInt8) (h : 17 ≤ q.length) : ∃ a b c0 c1 c2 c3 d0 d1 d2 d3 e0 e1 e2 e3 k n0 n1 t, q = a :: b :: c0 :: c1 :: c2 :: c3 :: d0 :: d1 :: d2 :: d3 :: e0 :: e1 :: e2 :: e3 :: k :: n0 :: n1 :: t := by
  obtain ⟨a, t, rfl⟩ := List.exists_cons_of_length_pos (l := q) (by first | omega | (simp only [List.length_cons] at h; omega))
  obtain ⟨b, t, rfl⟩ := List.exists_cons_of_length_pos (l := t) (by first | omega | (simp only [List.length_cons] at h; omega))
  obtain ⟨c0, t, rfl⟩ := List.exists_cons_of_length_pos (l := t) (by first | omega | (simp only [List.length_cons] at h; omega))
  obtain ⟨c1, t, rfl⟩ := List.exists_cons_of_length_pos (l := t) (by first | omega | (simp only [List.length_cons] at h; omega))
  obtain ⟨c2, t, rfl⟩ := List.exists_cons_of_length_pos (l := t) (by first | omega | (simp only [List.length_cons] at h; omega))
  obtain ⟨c3, t, rfl⟩ := List.exists_cons_of_length_pos (l := t) (by first | omega | (simp only [List.length_cons] at h; omega))
  obtain ⟨d0, t, rfl⟩ := List.exists_cons_of_length_pos (l := t) (by first | omega | (simp only [List.length_cons] at h; omega))
  obtain ⟨d1, t, rfl⟩ := List.exists_cons_of_length_pos (l := t) (by first | omega | (simp only [List.length_cons] at h; omega))
  obtain ⟨d2, t, rfl⟩ := List.exists_cons_of_length_pos (l := t) (by first | omega | (simp only [List.length_cons] at h; omega))
  obtain ⟨d3, t, rfl⟩ := List.exists_cons_of_length_pos (l := t) (by first | omega | (simp only [List.length_cons] at h; omega))
  obtain ⟨e0, t, rfl⟩ := List.exists_cons_of_length_pos (l := t) (by first | omega | (simp only [List.length_cons] at h; omega))
  obtain ⟨e1, t, rfl⟩ := List.exists_cons_of_length_pos (l := t) (by first | omega | (simp only [List.length_cons] at h; omega))
  obtain ⟨e2, t, rfl⟩ := List.exists_cons_of_length_pos (l := t) (by first | omega | (simp only [List.length_cons] at h; omega))
  obtain ⟨e3, t, rfl⟩ := List.exists_cons_of_length_pos (l := t) (by first | omega | (simp only [List.length_cons] at h; omega))
  obtain ⟨k, t, rfl⟩ := List.exists_cons_of_length_pos (l := t) (by first | omega | (simp only [List.length_cons] at h; omega))
  obtain ⟨n0, t, rfl⟩ := List.exists_cons_of_length_pos (l := t) (by first | omega | (simp only [List.length_cons] at h; omega))
  obtain ⟨n1, t, rfl⟩ := List.exists_cons_of_length_pos (l := t) (by first | omega | (simp only [List.length_cons] at h; omega))
  exact ⟨a, b, c0, c1, c2, c3, d0, d1, d2, d3, e0, e1, e2, e3, k, n0, n1, t, rfl⟩

/-- a page's bytes tell its parts -/
theorem pgOf_raw (p : Pg) (ok : p.Ok) (hd : p.data.length ≤ 491) : pgOf p.raw = p := by
  obtain ⟨g, s, n, k, d⟩ := p
  obtain ⟨o1, o2, o3, o4⟩ := ok
  simp only at o1 o2 o3 o4 hd
  show (⟨val (be4 g), val (be4 s), val (be4 n), (UInt8.ofNat k).toNat, (d ++ List.replicate (491 - d.length) 0).take (val (be2 d.length))⟩ : Pg) = _
  rw [val_be4 _ o1, val_be4 _ o2, val_be4 _ o3, toNat_ofNat8 _ o4, val_be2 _ (by omega), List.take_left]

theorem lenOf_raw (p : Pg) (hd : p.data.length ≤ 491) : lenOf p.raw = p.data.length := by
  show val (be2 p.data.length) = _
  exact val_be2 _ (by omega)

abbrev noughts (l : List UInt8) : Prop := ∀ b ∈ l, b = 0

theorem noughts_eq {l : List UInt8} (h : noughts l) : l = List.replicate l.length 0 := List.eq_replicate_iff.2 ⟨rfl, h⟩

/-- what has the mark, and noughts behind the data, is its page's bytes, and nothing else is -/
theorem raw_pgOf (q : List UInt8) (hq : q.length = 508) (hn : lenOf q ≤ 491) : (pgOf q).raw = q ↔ (q.take 2 = mark ∧ noughts (q.drop (17 + lenOf q))) := by
  obtain ⟨a, b, c0, c1, c2, c3, d0, d1, d2, d3, e0, e1, e2, e3, k, n0, n1, t, rfl⟩ := open17 q (by omega)
  have ht : t.length = 491 := by simpa using hq
  have hl : lenOf (a :: b :: c0 :: c1 :: c2 :: c3 :: d0 :: d1 :: d2 :: d3 :: e0 :: e1 :: e2 :: e3 :: k :: n0 :: n1 :: t) = val [n0, n1] := rfl
  rw [hl] at hn ⊢
  have hdl : (t.take (val [n0, n1])).length = val [n0, n1] := by rw [List.length_take]; omega
  have hraw : (pgOf (a :: b :: c0 :: c1 :: c2 :: c3 :: d0 :: d1 :: d2 :: d3 :: e0 :: e1 :: e2 :: e3 :: k :: n0 :: n1 :: t)).raw =
      mark ++ be4 (val [c0, c1, c2, c3]) ++ be4 (val [d0, d1, d2, d3]) ++ be4 (val [e0, e1, e2, e3]) ++ [UInt8.ofNat k.toNat] ++ be2 (t.take (val [n0, n1])).length ++ t.take (val [n0, n1]) ++ List.replicate (491 - (t.take (val [n0, n1])).length) 0 := rfl
  rw [hraw, hdl, be4_val, be4_val, be4_val, be2_val, ofNat_toNat8]
  have hdr : (a :: b :: c0 :: c1 :: c2 :: c3 :: d0 :: d1 :: d2 :: d3 :: e0 :: e1 :: e2 :: e3 :: k :: n0 :: n1 :: t).drop (17 + val [n0, n1]) = t.drop (val [n0, n1]) := by
    rw [← List.drop_drop]; rfl
  rw [hdr]
  show 104 :: 103 :: c0 :: c1 :: c2 :: c3 :: d0 :: d1 :: d2 :: d3 :: e0 :: e1 :: e2 :: e3 :: k :: n0 :: n1 :: (t.take (val [n0, n1]) ++ List.replicate (491 - val [n0, n1]) 0) = _ ↔ [a, b] = [104, 103] ∧ _
  have key : t.take (val [n0, n1]) ++ List.replicate (491 - val [n0, n1]) 0 = t ↔ noughts (t.drop (val [n0, n1])) := by
    constructor
    · intro h x hx
      rw [← h, List.drop_left' hdl] at hx
      exact List.eq_of_mem_replicate hx
    · intro h
      have h1 := noughts_eq h
      rw [List.length_drop, ht] at h1
      rw [← h1, List.take_append_drop]
  constructor
  · intro h
    injection h with h1 h
    injection h with h2 h
    injection h with _ h
    injection h with _ h
    injection h with _ h
    injection h with _ h
    injection h with _ h
    injection h with _ h
    injection h with _ h
    injection h with _ h
    injection h with _ h
    injection h with _ h
    injection h with _ h
    injection h with _ h
    injection h with _ h
    injection h with _ h
    injection h with _ h
    exact ⟨by rw [← h1, ← h2], key.1 h⟩
  · rintro ⟨h, hz⟩
    injection h with h1 h
    injection h with h2 _
    rw [key.2 hz, h1, h2]

/-- what Parse answers -/
def parseOf (b : List UInt8) : Int × Pg :=
  if b.length ≠ 512 then (1, .zero)
  else if noughts b then (3, .zero)
  else if b ≠ seal8 (b.take 508) then (7, .zero)
  else if b.getD 14 0 = 0 ∨ 491 < lenOf b ∨ ¬ (b.take 2 = mark ∧ noughts ((b.take 508).drop (17 + lenOf b))) then (2, .zero)
  else (0, pgOf (b.take 508))
end Go.Proofs.YtacfkhnajdneeaaDoor
/- Plain: a number as bytes of seven bits. No program is in sight. -/
namespace Vi

/-- a number's bytes, the lowest seven bits first -/
def vbytes : Nat → Nat → List UInt8
  | 0, n => [UInt8.ofNat n]
  | f + 1, n => if n < 128 then [UInt8.ofNat n] else UInt8.ofNat (n % 128 + 128) :: vbytes f (n / 128)
def varint (n : Nat) : List UInt8 := vbytes 9 n

theorem vbytes_more (f : Nat) : ∀ n, n < 128 ^ (f + 1) → vbytes (f + 1) n = vbytes f n := by
  induction f with
  | zero => intro n h; simp only [vbytes]; rw [if_pos (by simpa using h)]
  | succ f ih =>
    intro n h
    rw [vbytes]
    conv => rhs; rw [vbytes]
    split
    · rfl
    · rw [ih (n / 128) (by rw [Nat.div_lt_iff_lt_mul (by omega)]; rw [Nat.pow_succ] at h; exact h)]

theorem varint_small {n : Nat} (h : n < 128) : varint n = [UInt8.ofNat n] := by
  unfold varint vbytes; rw [if_pos h]

theorem varint_step {n : Nat} (h : 128 ≤ n) (hn : n < 18446744073709551616) : varint n = UInt8.ofNat (n % 128 + 128) :: varint (n / 128) := by
  unfold varint
  rw [vbytes_more 8 (n / 128) (by
    have : (128 : Nat) ^ 9 = 9223372036854775808 := by decide
    omega)]
  conv => lhs; rw [vbytes]
  rw [if_neg (by omega)]

theorem vbytes_length (f : Nat) : ∀ n, 0 < (vbytes f n).length ∧ (vbytes f n).length ≤ f + 1 := by
  induction f with
  | zero => intro n; simp [vbytes]
  | succ f ih =>
    intro n
    have := ih (n / 128)
    simp only [vbytes]
    split
    · simp
    · simp; omega

theorem varint_length (n : Nat) : 0 < (varint n).length ∧ (varint n).length ≤ 10 := vbytes_length 9 n

end Vi
/- Walks: a writer of bytes: add. -/
namespace Go.Proofs.YtacfkhnajdneeaaDoor
open Go.RowKit

/-- the block in which what a one-field object owns lies -/
def slotBlock (w : World) (g : Nat) : Option Nat := (w.cell? ⟨g, 0, none⟩).bind Value.ownBlock

/-- a writer that holds the bytes l -/
def WriterAt (base : Nat) (w : World) (g : Nat) (l : List UInt8) : Prop :=
  ∃ v, w.heap[g]? = some (.cells #[v] 80 (0, 0)) ∧ Own8 5 base w v l

/-- only the writer at g has turned, and where its bytes lie -/
structure Grew (w w' : World) (g : Nat) : Prop where
  only : Only w w' (fun k => k = g ∨ slotBlock w g = some k)
  fresh : slotBlock w' g = slotBlock w g ∨ ∀ k, slotBlock w' g = some k → w.heap.size ≤ k

theorem Grew.refl (w : World) (g : Nat) : Grew w w g := ⟨Only.refl _ _, .inl rfl⟩
theorem Grew.trans {a b c : World} {g : Nat} (h : Grew a b g) (k : Grew b c g) : Grew a c g := by
  refine ⟨h.only.trans k.only (fun i hi ht => ?_), ?_⟩
  · rcases ht with rfl | ht
    · exact .inl rfl
    · rcases h.fresh with hf | hf
      · right; rw [← hf]; exact ht
      · have := hf i ht; omega
  · rcases k.fresh with hk | hk
    · rcases h.fresh with hf | hf
      · left; rw [hk, hf]
      · right; intro i hi; rw [hk] at hi; exact hf i hi
    · right; intro i hi; exact Nat.le_trans h.only.size (hk i hi)

theorem slotBlock_at {w : World} {g : Nat} {v : Value} {T : Nat} (h : w.heap[g]? = some (.cells #[v] T (0, 0))) : slotBlock w g = v.ownBlock := by
  unfold slotBlock
  rw [cell_of_row w g 0 _ _ _ h]
  rfl

theorem own8_block {e base : Nat} {w : World} {v : Value} {l : List UInt8} (h : Own8 e base w v l) {g : Nat} (hg : v.ownBlock = some g) : ∃ cur, w.heap[g]? = some (.cells cur e (0, 0)) := by
  rcases h.2 with ⟨rfl, _⟩ | ⟨g', c, cur, rfl, _, hg', _⟩
  · cases hg
  · simp [Value.ownBlock] at hg
    subst hg
    exact ⟨cur, hg'⟩

theorem own8_ne {e base T : Nat} {w : World} {v : Value} {l : List UInt8} (h : Own8 e base w v l) {g : Nat} {cs : Array Value} {fr : Nat × Nat} (hg : w.heap[g]? = some (.cells cs T fr)) (hT : T ≠ e) : v.ownBlock ≠ some g := by
  intro hb
  obtain ⟨cur, hc⟩ := own8_block h hb
  rw [hg] at hc
  cases hc
  exact hT rfl

set_option maxRecDepth 10000 in
set_option maxHeartbeats 400000 in
theorem add_any (base g : Nat) (l : List UInt8) (u : Value) (m : List UInt8) (w : World) (hw : WriterAt base w g l) (hm : Bytes w u m) (hbig : l.length + m.length ≤ 140737488355328) (hbase : base ≤ w.heap.size) :
    Calls Tryd.prog 67 #[.pointer (some ⟨g, 0, none⟩), u] w fun e w' =>
      e = .returned (.pointer (some ⟨g, 0, none⟩)) ∧ WriterAt base w' g (l ++ m) ∧ Grew w w' g := by
  obtain ⟨v, hg, hown⟩ := hw
  obtain ⟨a, c, rfl, _, _, _, _⟩ := id hm
  have hcell : w.cell? ⟨g, 0, none⟩ = some v := cell_of_row w g 0 _ _ _ hg
  have HG := Lib.hid hg
  have hne : v.ownBlock ≠ some g := own8_ne hown hg (by decide)
  clear hg
  go_enter Tryd.func67, Tryd.ntmps67
  go_wp2_with (at_builtin; refine wpList_app8' rfl _ _ 23 5 row8 rfl base v l rfl hown _ m rfl hm hbig hbase ?_; intro v' w1 h1 h2 h3; obtain ⟨a1, n1, c1, rfl⟩ := h1.isSlice; have hg1 := h2.block g (block_lt_of_cell hcell) (fun e => hne e.symm); have hcell1 := (World.cell?_of_block (a := ⟨g, 0, none⟩) hg1).trans hcell; have hfr1 := (World.frozen?_of_block (a := ⟨g, 0, none⟩) hg1).trans (frozen_of_row w g 0 _ _ HG.out))
  go_ret
  have hgw := hg1.trans HG.out
  have hst : (w1.setCell ⟨g, 0, none⟩ (.slice a1 n1 c1)).heap[g]? = some (.cells #[.slice a1 n1 c1] 80 (0, 0)) := heap_setCell_same w1 g 0 _ _ (.slice a1 n1 c1) hgw
  have hne1 : (Value.slice a1 n1 c1).ownBlock ≠ some g := own8_ne h1 hgw (by decide)
  have hown2 : Own8 5 base (w1.setCell ⟨g, 0, none⟩ (.slice a1 n1 c1)) (.slice a1 n1 c1) (l ++ m) :=
    World.ownsRow.kept (row := some g) h1 ⟨rfl, rfl, rfl, by simp [World.setCell], fun k _ hk => heap_setCell_other _ _ _ _ (fun e => hk (by rw [e]))⟩ (.inr hne1)
  refine ⟨rfl, ⟨_, hst, hown2⟩, ?_, ?_⟩
  · refine ((Only.of_grown h2).mono (T := fun k => k = g ∨ slotBlock w g = some k) (fun i _ hi => .inr ?_)).trans (Only.setCell _ _ _) (fun i _ hi => .inl hi)
    rw [slotBlock_at HG.out]
    exact hi
  · rw [slotBlock_at hst, slotBlock_at HG.out]
    rcases h3 with h | h
    · exact .inl h
    · exact .inr h
end Go.Proofs.YtacfkhnajdneeaaDoor
/- Walks: a writer's Num. -/
namespace Go.Proofs.YtacfkhnajdneeaaDoor
open Go.RowKit

theorem WriterAt.below {base : Nat} {w w' : World} {g : Nat} {l : List UInt8} (h : WriterAt base w g l) (hb : Below w.heap.size w w') : WriterAt base w' g l := by
  obtain ⟨v, hg, hown⟩ := h
  exact ⟨v, (hb.block g (Array.getElem?_eq_some_iff.1 hg).1).trans hg, Own8.kept hown (Nat.le_refl _) hb⟩
theorem WriterAt.lt {base : Nat} {w : World} {g : Nat} {l : List UInt8} (h : WriterAt base w g l) : g < w.heap.size := by
  obtain ⟨v, hg, _⟩ := h
  exact (Array.getElem?_eq_some_iff.1 hg).1
theorem Grew.of_below {w w' : World} {g : Nat} (hb : Below w.heap.size w w') (hg : g < w.heap.size) : Grew w w' g :=
  ⟨Only.of_below hb _, .inl (by unfold slotBlock; rw [hb.cell (p := ⟨g, 0, none⟩) hg])⟩
theorem Grew.size {w w' : World} {g : Nat} (h : Grew w w' g) : w.heap.size ≤ w'.heap.size := h.only.size

theorem or128 (n : Nat) : bits .or .u8 ((n : Int) % 256) 128 = ((UInt8.ofNat (n % 128 + 128)).toNat : Int) := by
  have h1 : (n : Int) % 256 = ((n % 256 : Nat) : Int) := by omega
  rw [h1, UInt8.toNat_ofNat_of_lt' (show n % 128 + 128 < UInt8.size by simp [UInt8.size]; omega)]
  have h2 : bits .or .u8 ((n % 256 : Nat) : Int) 128 = ((n % 256 ||| 128 : Nat) : Int) := u8_or_nat (n % 256) 128 (by omega) (by omega)
  have h3 : n % 256 ||| 128 = n % 128 + 128 := by
    apply Nat.eq_of_testBit_eq
    intro i
    have e : n % 128 + 128 = 2 ^ 7 * 1 + n % 2 ^ 7 := by omega
    rw [e, Nat.testBit_or, show (256 : Nat) = 2 ^ 8 by decide, Nat.testBit_mod_two_pow, show (128 : Nat) = 2 ^ 7 by decide, Nat.testBit_two_pow, Nat.testBit_two_pow_mul_add _ (Nat.mod_lt _ (by decide)), Nat.testBit_mod_two_pow]
    by_cases h7 : i < 7
    · have : ¬ 7 = i := by omega
      simp [h7, this, show i < 8 by omega]
    · by_cases h : i = 7
      · subst h; simp
      · have h8 : ¬ i < 8 := by omega
        have h9 : ¬ 7 = i := by omega
        have h10 : Nat.testBit 1 (i - 7) = false := by
          rw [show (1 : Nat) = 2 ^ 0 by decide, Nat.testBit_two_pow]; simp; omega
        simp [h7, h8, h9, h10]
  rw [h2, h3]

set_option maxRecDepth 10000 in
set_option maxHeartbeats 400000 in
theorem wnum_any (base g : Nat) (l : List UInt8) (n : Nat) (w : World) (hn : n < 18446744073709551616) (hw : WriterAt base w g l) (hbig : l.length + 10 ≤ 140737488355328) (hbase : base ≤ w.heap.size) :
    Calls Tryd.prog 66 #[.pointer (some ⟨g, 0, none⟩), .int .u64 n] w fun e w' =>
      e = .returned (.pointer (some ⟨g, 0, none⟩)) ∧ WriterAt base w' g (l ++ Vi.varint n) ∧ Grew w w' g := by
  go_enter Tryd.func66, Tryd.ntmps66
  go_wp2
  go_loopw [1] (fun c wr => ∃ (m : Nat) (p : List UInt8), c = .int .u64 m ∧ m < 18446744073709551616 ∧ Hid (p ++ Vi.varint m = Vi.varint n) ∧ WriterAt base wr g (l ++ p) ∧ Grew w wr g) (fun c _ => (intOf c).toNat)
  case atStart => exact ⟨n, [], rfl, hn, Lib.hid rfl, by simpa using hw, Grew.refl _ _⟩
  case round =>
    obtain ⟨m, p, rfl, hm, HP, hwr, hgr⟩ := hrel
    have hplen : p.length ≤ 9 := by
      have h := congrArg List.length HP.out
      rw [List.length_append] at h
      have h1 := (Vi.varint_length n).2
      have h2 := (Vi.varint_length m).1
      omega
    have hlt := hwr.lt
    have hsz := hgr.size
    by_cases h128 : 128 ≤ m
    · have hst := Vi.varint_step h128 hm
      have hor := or128 m
      have HS := Lib.hid hst
      clear hst
      have hwa := hwr.below (bal (bre wr) (.cells #[.int .u8 ((UInt8.ofNat (m % 128 + 128)).toNat : Int)] 5))
      have hga := hgr.trans (Grew.of_below (bal (bre wr) (.cells #[.int .u8 ((UInt8.ofNat (m % 128 + 128)).toNat : Int)] 5)) hlt)
      have hb1 := bytes_one wr (UInt8.ofNat (m % 128 + 128)) 5
      unfold B8 at hb1
      generalize UInt8.ofNat (m % 128 + 128) = b at *
      have hlen : (l ++ p).length + [b].length ≤ 140737488355328 := by simp; omega
      have hbs : base ≤ (wr.alloc (.cells #[.int .u8 (b.toNat : Int)] 5)).heap.size := by simp; omega
      clear hwr hgr
      go_wp2_with (go_at_call 67; refine (add_any base g (l ++ p) _ [b] _ hwa hb1 hlen hbs).mono ?_; rintro e w2 ⟨rfl, hw2, hg2⟩)
      have hgn := hga.trans hg2
      clear hga hg2 hwa hb1 hlen hbs hor
      go_roundw
      case rel => exact ⟨m / 128, p ++ [b], by go_num, by omega, Lib.hid (by rw [← HP.out, HS.out]; simp), by simpa using hw2, hgn⟩
      case measure => simp [intOf]; omega
    · have hst := Vi.varint_small (show m < 128 by omega)
      have h8 : ((UInt8.ofNat m).toNat : Int) = (m : Int) := by
        rw [UInt8.toNat_ofNat_of_lt' (show m < UInt8.size by simp [UInt8.size]; omega)]
      have HS := Lib.hid hst
      clear hst
      have hwa := hwr.below (bal (bre wr) (.cells #[.int .u8 (m : Int)] 5))
      have hga := hgr.trans (Grew.of_below (bal (bre wr) (.cells #[.int .u8 (m : Int)] 5)) hlt)
      have hb1 := bytes_one wr (UInt8.ofNat m) 5
      unfold B8 at hb1
      rw [h8] at hb1
      have hlen : (l ++ p).length + [UInt8.ofNat m].length ≤ 140737488355328 := by simp; omega
      have hbs : base ≤ (wr.alloc (.cells #[.int .u8 (m : Int)] 5)).heap.size := by simp; omega
      clear hwr hgr h8
      go_wp2_with (go_at_call 67; refine (add_any base g (l ++ p) _ [UInt8.ofNat m] _ hwa hb1 hlen hbs).mono ?_; rintro e w2 ⟨rfl, hw2, hg2⟩)
      have hgn := hga.trans hg2
      go_ret
      refine ⟨rfl, ?_, hgn⟩
      rw [← HP.out, HS.out, ← List.append_assoc]
      exact hw2
end Go.Proofs.YtacfkhnajdneeaaDoor
/- Walks: a writer's Int, Text, Byte, Bool, Bytes. -/
namespace Go.Proofs.YtacfkhnajdneeaaDoor
open Go.RowKit

/-- an int as a number: its sign lowest -/
def zig (n : Int) : Nat := if n < 0 then (-2 * n - 1).toNat else (2 * n).toNat

theorem zig_lt {n : Int} (h0 : -9223372036854775808 ≤ n) (h1 : n ≤ 9223372036854775807) : zig n < 18446744073709551616 := by
  unfold zig; split <;> omega

theorem not64 (s : Nat) (hs : s < 18446744073709551616) : s ^^^ 18446744073709551615 = 18446744073709551615 - s := by
  have e2 : 18446744073709551615 - s = 2 ^ 64 - (s + 1) := by omega
  rw [e2, show (18446744073709551615 : Nat) = 2 ^ 64 - 1 by decide]
  apply Nat.eq_of_testBit_eq
  intro i
  rw [Nat.testBit_xor, Nat.testBit_two_pow_sub_one, Nat.testBit_two_pow_sub_succ (by omega)]
  by_cases hi : i < 64
  · simp [hi]
  · have h : s.testBit i = false := Nat.testBit_lt_two_pow (Nat.lt_of_lt_of_le hs (by
      have := Nat.pow_le_pow_right (n := 2) (by omega) (show 64 ≤ i by omega)
      omega))
    simp [hi, h]

theorem zig_bits (n : Int) (h0 : -9223372036854775808 ≤ n) (h1 : n ≤ 9223372036854775807) :
    bits .xor .u64 (IntKind.u64.wrap (IntKind.u64.wrap n * 2)) (IntKind.u64.wrap (n / 9223372036854775808)) = (zig n : Int) := by
  rw [IntKind.wrap_u64, IntKind.wrap_u64, IntKind.wrap_u64]
  by_cases h : n < 0
  · have e1 : n % 18446744073709551616 * 2 % 18446744073709551616 = ((2 * n + 18446744073709551616).toNat : Int) := by omega
    have e2 : n / 9223372036854775808 % 18446744073709551616 = ((18446744073709551615 : Nat) : Int) := by omega
    rw [e1, e2, bits_xor_u64_nat _ _ (by omega) (by omega), not64 _ (by omega)]
    unfold zig; rw [if_pos h]; omega
  · have e1 : n % 18446744073709551616 * 2 % 18446744073709551616 = ((2 * n).toNat : Int) := by omega
    have e2 : n / 9223372036854775808 % 18446744073709551616 = ((0 : Nat) : Int) := by omega
    rw [e1, e2, bits_xor_u64_nat _ _ (by omega) (by omega), Nat.xor_zero]
    unfold zig; rw [if_neg h]

set_option maxRecDepth 10000 in
set_option maxHeartbeats 400000 in
theorem wtext_any (base g : Nat) (l : List UInt8) (s : ByteArray) (w : World) (hs : s.size ≤ 100000000) (hw : WriterAt base w g l) (hbig : l.length ≤ 1000000000) (hbase : base ≤ w.heap.size) :
    Calls Tryd.prog 44 #[.pointer (some ⟨g, 0, none⟩), .string s] w fun e w' =>
      e = .returned (.pointer (some ⟨g, 0, none⟩)) ∧ WriterAt base w' g (l ++ (Vi.varint s.size ++ s.data.toList)) ∧ Grew w w' g := by
  have hv := Vi.varint_length s.size
  go_enter Tryd.func44, Tryd.ntmps44
  go_wp2_with fail
  refine (wnum_any base g l s.size w (by omega) hw (by omega) hbase).mono ?_
  rintro e w1 ⟨rfl, hw1, hg1⟩
  have hsz := hg1.size
  go_wp2_with (with_reducible refine wpList_text rfl 9 23 5 _ rfl s rfl Tryd.underlying9 Tryd.underlying23 Tryd.underlying5 (by unfold maxLen; omega) ?_; intro v2 w2 hb2 hB2)
  have hw2 := hw1.below hB2
  have hg2 := hg1.trans (Grew.of_below hB2 hw1.lt)
  have hsz2 := hB2.size
  have hlen : s.data.toList.length = s.size := Array.length_toList
  refine (add_any base g _ v2 _ w2 hw2 hb2 (by rw [hlen, List.length_append]; omega) (by omega)).mono ?_
  rintro e w3 ⟨rfl, hw3, hg3⟩
  go_wp2
  go_ret
  exact ⟨rfl, by rw [← List.append_assoc]; exact hw3, hg2.trans hg3⟩

/-- one byte in a new block, and add -/
theorem wbyte_add (base g : Nat) (l : List UInt8) (b : UInt8) (w : World) (hw : WriterAt base w g l) (hbig : l.length ≤ 1000000000) (hbase : base ≤ w.heap.size) :
    Calls Tryd.prog 67 #[.pointer (some ⟨g, 0, none⟩), .slice (some ⟨w.heap.size, 0, none⟩) 1 1] (w.alloc (.cells #[.int .u8 (b.toNat : Int)] 5)) fun e w' =>
      e = .returned (.pointer (some ⟨g, 0, none⟩)) ∧ WriterAt base w' g (l ++ [b]) ∧ Grew w w' g := by
  have hb := bal (bre w) (.cells #[.int .u8 (b.toNat : Int)] 5)
  refine (add_any base g l _ [b] _ (hw.below hb) (bytes_one w b 5) (by simp; omega) (by have := hb.size; omega)).mono fun e w' ⟨h1, h2, h3⟩ => ⟨h1, h2, (Grew.of_below hb hw.lt).trans h3⟩

set_option maxRecDepth 10000 in
set_option maxHeartbeats 400000 in
theorem wbytes_any (base g : Nat) (l : List UInt8) (w : World) (hw : WriterAt base w g l) (hbig : l.length ≤ 140737488355328) :
    Calls Tryd.prog 45 #[.pointer (some ⟨g, 0, none⟩)] w fun e w' =>
      ∃ v', e = .returned v' ∧ Own8 5 w.heap.size w' v' l ∧ Below w.heap.size w w' := by
  obtain ⟨v, hg, hown⟩ := hw
  have hcell : w.cell? ⟨g, 0, none⟩ = some v := cell_of_row w g 0 _ _ _ hg
  have hb := hown.bytes
  clear hg hown
  go_enter Tryd.func45, Tryd.ntmps45
  go_wp2_with (go_at_call 55; refine (clone_any v l w hb hbig).mono ?_; rintro e w1 ⟨v1, rfl, hown1, hb1⟩)
  go_ret
  exact ⟨_, rfl, hown1, hb1⟩
end Go.Proofs.YtacfkhnajdneeaaDoor
/- Walks: a reader of bytes: fail, wrong, take. -/
namespace Go.Proofs.YtacfkhnajdneeaaDoor
open Go.RowKit

/-- a reader, and what is left of its bytes; none: it isn't right any more, or there is no reader -/
def RdAt (B : Nat) (w : World) (v : Value) (o : Option (List UInt8)) : Prop :=
  (v = .pointer none ∧ o = none) ∨ ∃ g u, v = .pointer (some ⟨g, 0, none⟩) ∧ g < B ∧
    ((o = none ∧ w.heap[g]? = some (.cells #[.slice none 0 0, .bool true] 117 (0, 0))) ∨
     ∃ l, o = some l ∧ w.heap[g]? = some (.cells #[u, .bool false] 117 (0, 0)) ∧ Bytes w u l ∧ ∀ k i n c, l ≠ [] → u = .slice (some ⟨k, i, none⟩) n c → k < B)

/-- only the reader has turned -/
def Turned (w w' : World) (v : Value) : Prop := Only w w' (fun k => v = .pointer (some ⟨k, 0, none⟩))
theorem Turned.refl (w : World) (v : Value) : Turned w w v := Only.refl _ _
theorem Turned.trans {a b c : World} {v : Value} (h : Turned a b v) (k : Turned b c v) : Turned a c v := Only.trans h k fun _ _ h => h

/-- a reader's two fields, turned both -/
theorem set_both {w : World} {g T : Nat} {x y : Value} (h : w.heap[g]? = some (.cells #[x, y] T (0, 0))) (x' y' : Value) :
    ((w.setCell ⟨g, 1, none⟩ y').setCell ⟨g, 0, none⟩ x').heap[g]? = some (.cells #[x', y'] T (0, 0)) := by
  have h1 : (w.setCell ⟨g, 1, none⟩ y').heap[g]? = some (.cells #[x, y'] T (0, 0)) := heap_setCell_same w g 1 _ _ y' h
  exact heap_setCell_same _ g 0 _ _ x' h1
theorem set_first {w : World} {g T : Nat} {x y : Value} (h : w.heap[g]? = some (.cells #[x, y] T (0, 0))) (x' : Value) :
    (w.setCell ⟨g, 0, none⟩ x').heap[g]? = some (.cells #[x', y] T (0, 0)) := heap_setCell_same w g 0 _ _ x' h

theorem Turned.set (w : World) (g o : Nat) (u : Value) : Turned w (w.setCell ⟨g, o, none⟩ u) (.pointer (some ⟨g, 0, none⟩)) :=
  (Only.setCell w ⟨g, o, none⟩ u).mono fun i _ h => by simp only at h; rw [h]

set_option maxRecDepth 10000 in
set_option maxHeartbeats 400000 in
theorem fail_any (B : Nat) (v : Value) (o : Option (List UInt8)) (w : World) (hr : RdAt B w v o) :
    Calls Tryd.prog 70 #[v] w fun e w' => e = .returned (.tuple #[]) ∧ RdAt B w' v none ∧ Turned w w' v := by
  rcases hr with ⟨rfl, rfl⟩ | ⟨g, u, rfl, hgB, hr⟩
  · go_enter Tryd.func70, Tryd.ntmps70
    go_wp2
    refine bodyPost_end (results_none rfl _ _ _) rfl ?_
    exact ⟨rfl, .inl ⟨rfl, rfl⟩, Turned.refl _ _⟩
  · obtain ⟨x, b, hg⟩ : ∃ x b, w.heap[g]? = some (.cells #[x, .bool b] 117 (0, 0)) := by
      rcases hr with ⟨_, h⟩ | ⟨_, _, h, _⟩
      · exact ⟨_, _, h⟩
      · exact ⟨_, _, h⟩
    clear hr
    have hc0 : w.cell? ⟨g, 0, none⟩ = some x := cell_of_row w g 0 _ _ _ hg
    have hc1 : w.cell? ⟨g, 1, none⟩ = some (.bool b) := cell_of_row w g 1 _ _ _ hg
    have hf0 := frozen_of_row w g 0 _ _ hg
    have hf1 := frozen_of_row w g 1 _ _ hg
    have HG := Lib.hid hg
    clear hg
    go_enter Tryd.func70, Tryd.ntmps70
    go_wp2_with fail
    refine bodyPost_end (results_none rfl _ _ _) rfl ?_
    exact ⟨rfl, .inr ⟨g, undef, rfl, hgB, .inl ⟨rfl, set_both HG.out _ _⟩⟩, (Turned.set w g 1 _).trans (Turned.set _ g 0 _)⟩

set_option maxRecDepth 10000 in
set_option maxHeartbeats 400000 in
theorem wrong_any (B : Nat) (v : Value) (o : Option (List UInt8)) (w : World) (hr : RdAt B w v o) :
    Calls Tryd.prog 69 #[v] w fun e w' => e = .returned (.bool o.isNone) ∧ w' = w := by
  rcases hr with ⟨rfl, rfl⟩ | ⟨g, u, rfl, hgB, hr⟩
  · go_enter Tryd.func69, Tryd.ntmps69
    go_wp2
    go_ret
    exact ⟨rfl, rfl⟩
  · obtain ⟨x, hg⟩ : ∃ x, w.heap[g]? = some (.cells #[x, .bool o.isNone] 117 (0, 0)) := by
      rcases hr with ⟨rfl, h⟩ | ⟨_, rfl, h, _⟩
      · exact ⟨_, h⟩
      · exact ⟨_, h⟩
    clear hr
    have hc1 : w.cell? ⟨g, 1, none⟩ = some (.bool o.isNone) := cell_of_row w g 1 _ _ _ hg
    clear hg
    generalize o.isNone = b at *
    go_enter Tryd.func69, Tryd.ntmps69
    go_wp2
    go_ret
    exact ⟨rfl, rfl⟩

/-- a byte off the front -/
def Rd.take : Option (List UInt8) → UInt8 × Option (List UInt8)
  | some (b :: l) => (b, some l)
  | _ => (0, none)

set_option maxRecDepth 10000 in
set_option maxHeartbeats 400000 in
theorem take_any (B : Nat) (v : Value) (o : Option (List UInt8)) (w : World) (hr : RdAt B w v o) :
    Calls Tryd.prog 81 #[v] w fun e w' => e = .returned (.int .u8 (Rd.take o).1.toNat) ∧ RdAt B w' v (Rd.take o).2 ∧ Turned w w' v := by
  have HR := Lib.hid hr
  rcases hr with ⟨rfl, rfl⟩ | ⟨g, u, rfl, hgB, ⟨rfl, hg⟩ | ⟨l, rfl, hg, hb, hbB⟩⟩
  · go_enter Tryd.func81, Tryd.ntmps81
    go_wp2_with (refine (fail_any B _ none w HR.out).mono ?_; rintro e w1 ⟨rfl, hr1, ht1⟩)
    go_ret
    exact ⟨rfl, hr1, ht1⟩
  · have hc0 : w.cell? ⟨g, 0, none⟩ = some (.slice none 0 0) := cell_of_row w g 0 _ _ _ hg
    have hc1 : w.cell? ⟨g, 1, none⟩ = some (.bool true) := cell_of_row w g 1 _ _ _ hg
    clear hg
    go_enter Tryd.func81, Tryd.ntmps81
    go_wp2_with (refine (fail_any B _ none w HR.out).mono ?_; rintro e w1 ⟨rfl, hr1, ht1⟩)
    go_ret
    exact ⟨rfl, hr1, ht1⟩
  · cases l with
    | nil =>
      have hc0 : w.cell? ⟨g, 0, none⟩ = some u := cell_of_row w g 0 _ _ _ hg
      have hc1 : w.cell? ⟨g, 1, none⟩ = some (.bool false) := cell_of_row w g 1 _ _ _ hg
      obtain ⟨a, c, rfl, _⟩ := hb
      clear hg
      go_enter Tryd.func81, Tryd.ntmps81
      go_wp2_with (refine (fail_any B _ (some []) w HR.out).mono ?_; rintro e w1 ⟨rfl, hr1, ht1⟩)
      go_ret
      exact ⟨rfl, hr1, ht1⟩
    | cons b l =>
      have hb' := hb
      obtain ⟨a, c, rfl, hm, hcap, _, h4⟩ := hb
      rcases h4 with h4 | ⟨k, i, rfl, h4⟩
      · cases h4
      obtain ⟨y, hy, rfl⟩ := h4 0 b rfl
      rw [Nat.add_zero] at hy
      have hkB : k < B := hbB k i _ _ (by simp) rfl
      clear hbB
      have hkg : k ≠ g := by
        rintro rfl
        rw [cell_row hg] at hy
        rcases i with _ | _ | i
        · cases hy
        · cases hy
        · simp at hy
      have hc0 : w.cell? ⟨g, 0, none⟩ = some (.slice (some ⟨k, i, none⟩) (l.length + 1) c) := cell_of_row w g 0 _ _ _ hg
      have hc1 : w.cell? ⟨g, 1, none⟩ = some (.bool false) := cell_of_row w g 1 _ _ _ hg
      have hf0 := frozen_of_row w g 0 _ _ hg
      have HG := Lib.hid hg
      have HB := Lib.hid hb'
      clear hg hb' h4
      simp only [List.length_cons] at hc0 hm hcap
      have hln : 0 < l.length + 1 := by omega
      go_enter Tryd.func81, Tryd.ntmps81
      go_wp2_with fail
      all_goals
        go_ret
        refine ⟨rfl, .inr ⟨g, _, rfl, hgB, .inr ⟨l, rfl, set_first HG.out _, ?_, fun k' i' n' c' _ e => by cases e; exact hkB⟩⟩, Turned.set w g 0 _⟩
        refine Bytes.only (S := fun k => k = g) ?_ (Only.setCell w _ _) (fun g' o n c' hl e => ?_)
        · have h := HB.out.suffix 1 (by simp)
          simp only [List.length_cons, List.drop_succ_cons, List.drop_zero, Nat.add_sub_cancel, Option.map_some, Addr.add_mid] at h
          first
            | (rw [if_neg (by assumption)] at h; exact h)
            | (subst c; exact h)
            | exact h
        · cases e
          exact hkg
end Go.Proofs.YtacfkhnajdneeaaDoor
/- Walks: a reader's Num. -/
namespace Go.Proofs.YtacfkhnajdneeaaDoor
open Go.RowKit

/-- a number off the front, the i-th byte of it next, n so far -/
def Rd.dec : Nat → Nat → List UInt8 → Option (Nat × List UInt8)
  | _, _, [] => none
  | i, n, b :: l =>
    if (0 < i ∧ b.toNat = 0) ∨ 9 < i ∨ (i = 9 ∧ 1 < b.toNat % 128) then none
    else if b.toNat < 128 then some (n + b.toNat % 128 * 128 ^ i, l)
    else Rd.dec (i + 1) (n + b.toNat % 128 * 128 ^ i) l

/-- a number, at most so great -/
def Rd.num (most : Nat) (o : Option (List UInt8)) : Nat × Option (List UInt8) :=
  match o.bind (Rd.dec 0 0) with
  | some (n, l) => if n ≤ most then (n, some l) else (0, none)
  | none => (0, none)

theorem Rd.num_none {most : Nat} {o : Option (List UInt8)} (h : o.bind (Rd.dec 0 0) = none) : Rd.num most o = (0, none) := by unfold Rd.num; rw [h]

theorem low128 (b : UInt8) : bits .andNot .u8 (b.toNat : Int) 128 = ((b.toNat % 128 : Nat) : Int) := by
  have hB : b.toNat < 256 := b.toNat_lt
  rw [show (128 : Int) = ((128 : Nat) : Int) by rfl, u8_andNot_nat _ _ hB (by omega), show 255 - 128 = 2 ^ 7 - 1 by decide, Nat.and_two_pow_sub_one_eq_mod]

theorem dec_or (i m B : Nat) (hi : i ≤ 9) (hm : m < 128 ^ i) (hl : i < 9 ∨ B % 128 ≤ 1) :
    bits .or .u64 (m : Int) (IntKind.u64.wrap ((B : Int) % 128 * 2 ^ (7 * i))) = ((m + B % 128 * 128 ^ i : Nat) : Int) ∧ m + B % 128 * 128 ^ i < 18446744073709551616 ∧
      m + B % 128 * 128 ^ i < 128 ^ (i + 1) ∧ (B : Int) % 128 ≤ 18446744073709551615 / 2 ^ (7 * i) := by
  have hp : (128 : Nat) ^ i = 2 ^ (7 * i) := by rw [Nat.pow_mul]
  have e1 : (B : Int) % 128 * 2 ^ (7 * i) = ((B % 128 * 128 ^ i : Nat) : Int) := by rw [hp]; simp
  have h3 : (B : Int) % 128 ≤ 18446744073709551615 / 2 ^ (7 * i) := by
    obtain rfl | rfl | rfl | rfl | rfl | rfl | rfl | rfl | rfl | rfl : i = 0 ∨ i = 1 ∨ i = 2 ∨ i = 3 ∨ i = 4 ∨ i = 5 ∨ i = 6 ∨ i = 7 ∨ i = 8 ∨ i = 9 := by omega
    all_goals simp only [Nat.reduceMul, Int.reducePow, Int.reduceDiv]; omega
  have h4 : m + B % 128 * 128 ^ i < 18446744073709551616 := by
    obtain rfl | rfl | rfl | rfl | rfl | rfl | rfl | rfl | rfl | rfl : i = 0 ∨ i = 1 ∨ i = 2 ∨ i = 3 ∨ i = 4 ∨ i = 5 ∨ i = 6 ∨ i = 7 ∨ i = 8 ∨ i = 9 := by omega
    all_goals simp only [Nat.reducePow] at *; omega
  refine ⟨?_, h4, ?_, h3⟩
  · rw [e1, IntKind.wrap_u64]
    have hlt : B % 128 * 128 ^ i < 18446744073709551616 := by omega
    have e2 : ((B % 128 * 128 ^ i : Nat) : Int) % 18446744073709551616 = ((B % 128 * 128 ^ i : Nat) : Int) := by omega
    rw [e2, bits_or_u64_nat _ _ (by omega) hlt]
    congr 1
    rw [hp] at hm ⊢
    rw [Nat.or_comm, Nat.mul_comm, ← Nat.two_pow_add_eq_or_of_lt hm, Nat.add_comm]
  · rw [Nat.pow_succ]
    have h5 : B % 128 * 128 ^ i ≤ 127 * 128 ^ i := Nat.mul_le_mul_right _ (by omega)
    omega

set_option maxRecDepth 10000 in
set_option maxHeartbeats 800000 in
theorem trnum_any (B : Nat) (v : Value) (o : Option (List UInt8)) (most : Nat) (w : World) (hr : RdAt B w v o) :
    Calls Tryd.prog 68 #[v, .int .u64 most] w fun e w' =>
      e = .returned (.int .u64 (Rd.num most o).1) ∧ RdAt B w' v (Rd.num most o).2 ∧ Turned w w' v := by
  go_enter Tryd.func68, Tryd.ntmps68
  go_wp2
  go_loopw [5, 6] (fun c s wr => ∃ (i m : Nat) (o' : Option (List UInt8)), c = .int .u64 m ∧ s = .int .i64 (7 * i : Nat) ∧ i ≤ 10 ∧ m < 18446744073709551616 ∧ Hid (m < 128 ^ i) ∧ Hid (o'.bind (Rd.dec i m) = o.bind (Rd.dec 0 0)) ∧ RdAt B wr v o' ∧ Turned w wr v) (fun _ s _ => 77 - (intOf s).toNat)
  case atStart => exact ⟨0, 0, o, rfl, rfl, by omega, by omega, Lib.hid (by decide), Lib.hid rfl, hr, Turned.refl _ _⟩
  case round =>
    obtain ⟨i, m, o', rfl, rfl, hi, hm64, HM, HD, hro, hto⟩ := hrel
    by_cases hbad : ∃ b l, o' = some (b :: l)
    · obtain ⟨b, l, rfl⟩ := hbad
      have htk := take_any B v (some (b :: l)) wr hro
      have HT := Lib.hid htk
      clear htk hro
      have hlow := low128 b
      have hB : b.toNat < 256 := b.toNat_lt
      have hdec : (some (b :: l) : Option (List UInt8)).bind (Rd.dec i m) = _ := rfl
      by_cases hc1 : (0 < i ∧ b.toNat = 0) ∨ 9 < i ∨ (i = 9 ∧ 1 < b.toNat % 128)
      · have hn2 : o.bind (Rd.dec 0 0) = none := by rw [← HD.out]; show Rd.dec i m (b :: l) = none; rw [Rd.dec, if_pos hc1]
        have HN := Lib.hid (Rd.num_none (most := most) hn2)
        clear hn2 HD HM hdec
        have key : ∀ C : Prop, C → True := fun _ _ => trivial
        rcases hc1 with ⟨h1, h2⟩ | h1 | ⟨rfl, h2⟩
        · go_wp2_with first
            | (go_at_call 81; refine HT.out.mono ?_; rintro e w1 ⟨rfl, hr1, ht1⟩; simp only [Rd.take] at hr1; simp only [Rd.take])
            | (go_at_call 69; refine (wrong_any B v (some l) _ hr1).mono ?_; rintro e w2 ⟨rfl, rfl⟩; simp only [Option.isNone])
            | (go_at_call 70; refine (fail_any B v (some l) _ hr1).mono ?_; rintro e w3 ⟨rfl, hr3, ht3⟩)
          go_ret
          rw [HN.out]
          exact ⟨rfl, hr3, hto.trans (ht1.trans ht3)⟩
        · go_wp2_with first
            | (go_at_call 81; refine HT.out.mono ?_; rintro e w1 ⟨rfl, hr1, ht1⟩; simp only [Rd.take] at hr1; simp only [Rd.take])
            | (go_at_call 69; refine (wrong_any B v (some l) _ hr1).mono ?_; rintro e w2 ⟨rfl, rfl⟩; simp only [Option.isNone])
            | (go_at_call 70; refine (fail_any B v (some l) _ hr1).mono ?_; rintro e w3 ⟨rfl, hr3, ht3⟩)
          all_goals
            go_ret
            rw [HN.out]
            exact ⟨rfl, hr3, hto.trans (ht1.trans ht3)⟩
        · go_wp2_with first
            | (go_at_call 81; refine HT.out.mono ?_; rintro e w1 ⟨rfl, hr1, ht1⟩; simp only [Rd.take] at hr1; simp only [Rd.take])
            | (go_at_call 69; refine (wrong_any B v (some l) _ hr1).mono ?_; rintro e w2 ⟨rfl, rfl⟩; simp only [Option.isNone])
            | (go_at_call 70; refine (fail_any B v (some l) _ hr1).mono ?_; rintro e w3 ⟨rfl, hr3, ht3⟩)
          all_goals
            go_ret
            rw [HN.out]
            exact ⟨rfl, hr3, hto.trans (ht1.trans ht3)⟩
      · have hi9 : i ≤ 9 := by omega
        have hz : i = 0 ∨ b.toNat ≠ 0 := by omega
        have hl : i < 9 ∨ b.toNat % 128 ≤ 1 := by omega
        clear hdec
        obtain ⟨hor, hn64, hn128, hsh⟩ := dec_or i m b.toNat hi9 HM.out hl
        have hz0 : (i = 0 ∧ bits .or .u64 (m : Int) ((b.toNat : Int) % 128) = ((m + b.toNat % 128 * 128 ^ i : Nat) : Int)) ∨ (0 < i ∧ ((b.toNat : Int) == 0) = false) := by
          rcases Nat.eq_zero_or_pos i with h | h
          · refine .inl ⟨h, ?_⟩
            rw [← hor, h, IntKind.wrap_u64]
            congr 1
            simp only [Nat.mul_zero, Int.pow_zero, Int.mul_one]
            omega
          · exact .inr ⟨h, by simp; omega⟩
        by_cases hlast : b.toNat < 128
        · have hd : o.bind (Rd.dec 0 0) = some (m + b.toNat % 128 * 128 ^ i, l) := by
            rw [← HD.out]; show Rd.dec i m (b :: l) = _; rw [Rd.dec, if_neg hc1, if_pos hlast]
          have HN := Lib.hid hd
          clear hd HD HM hc1 hn128 hl
          generalize m + b.toNat % 128 * 128 ^ i = n at *
          by_cases hmn : n ≤ most
          · have hN : Rd.num most o = (n, some l) := by unfold Rd.num; rw [HN.out]; simp only; rw [if_pos hmn]
            have HV := Lib.hid hN
            clear hN HN
            rcases hz0 with hz1 | ⟨hz1, hz2⟩
            all_goals go_wp2_with first
              | (go_at_call 81; refine HT.out.mono ?_; rintro e w1 ⟨rfl, hr1, ht1⟩; simp only [Rd.take] at hr1; simp only [Rd.take])
              | (go_at_call 69; refine (wrong_any B v (some l) _ hr1).mono ?_; rintro e w2 ⟨rfl, rfl⟩; simp only [Option.isNone])
              | (go_at_call 70; refine (fail_any B v (some l) _ hr1).mono ?_; rintro e w3 ⟨rfl, hr3, ht3⟩)
            all_goals
              go_ret
              rw [HV.out]
              exact ⟨rfl, hr1, hto.trans ht1⟩
          · have hN : Rd.num most o = (0, none) := by unfold Rd.num; rw [HN.out]; simp only; rw [if_neg hmn]
            have HV := Lib.hid hN
            clear hN HN
            rcases hz0 with hz1 | ⟨hz1, hz2⟩
            all_goals go_wp2_with first
              | (go_at_call 81; refine HT.out.mono ?_; rintro e w1 ⟨rfl, hr1, ht1⟩; simp only [Rd.take] at hr1; simp only [Rd.take])
              | (go_at_call 69; refine (wrong_any B v (some l) _ hr1).mono ?_; rintro e w2 ⟨rfl, rfl⟩; simp only [Option.isNone])
              | (go_at_call 70; refine (fail_any B v (some l) _ hr1).mono ?_; rintro e w3 ⟨rfl, hr3, ht3⟩)
            all_goals
              go_ret
              rw [HV.out]
              exact ⟨rfl, hr3, hto.trans (ht1.trans ht3)⟩
        · have hd : (some l : Option (List UInt8)).bind (Rd.dec (i + 1) (m + b.toNat % 128 * 128 ^ i)) = o.bind (Rd.dec 0 0) := by
            rw [← HD.out]; show _ = Rd.dec i m (b :: l); rw [Rd.dec, if_neg hc1, if_neg hlast]; rfl
          have HN := Lib.hid hd
          have HP := Lib.hid hn128
          clear hd HD HM hc1 hn128 hl
          generalize m + b.toNat % 128 * 128 ^ i = n at *
          rcases hz0 with hz1 | ⟨hz1, hz2⟩
          all_goals go_wp2_with first
            | (go_at_call 81; refine HT.out.mono ?_; rintro e w1 ⟨rfl, hr1, ht1⟩; simp only [Rd.take] at hr1; simp only [Rd.take])
            | (go_at_call 69; refine (wrong_any B v (some l) _ hr1).mono ?_; rintro e w2 ⟨rfl, rfl⟩; simp only [Option.isNone])
            | (go_at_call 70; refine (fail_any B v (some l) _ hr1).mono ?_; rintro e w3 ⟨rfl, hr3, ht3⟩)
          all_goals
            go_roundw
            case rel => exact ⟨i + 1, n, some l, rfl, by go_num, by omega, hn64, HP, HN, hr1, hto.trans ht1⟩
            case measure => simp [intOf]; omega
    · have hn : Rd.take o' = (0, none) ∧ o'.bind (Rd.dec i m) = none := by
        rcases o' with _ | _ | ⟨b, l⟩
        · exact ⟨rfl, rfl⟩
        · exact ⟨rfl, rfl⟩
        · exact absurd ⟨b, l, rfl⟩ hbad
      have hn2 : o.bind (Rd.dec 0 0) = none := HD.out.symm.trans hn.2
      have htk := take_any B v o' wr hro
      rw [hn.1] at htk
      have HT := Lib.hid htk
      have HN := Lib.hid (Rd.num_none (most := most) hn2)
      clear htk hro hn hn2 hbad HD HM
      go_wp2_with first
        | (go_at_call 81; refine HT.out.mono ?_; rintro e w1 ⟨rfl, hr1, ht1⟩)
        | (go_at_call 69; refine (wrong_any B v none _ hr1).mono ?_; rintro e w2 ⟨rfl, rfl⟩)
        | (go_at_call 70; refine (fail_any B v none _ hr1).mono ?_; rintro e w3 ⟨rfl, hr3, ht3⟩)
      go_ret
      rw [HN.out]
      exact ⟨rfl, hr3, hto.trans (ht1.trans ht3)⟩
end Go.Proofs.YtacfkhnajdneeaaDoor
/- Walks: a reader's Int, Text, Byte, Bool, Left, Done; Read. -/
namespace Go.Proofs.YtacfkhnajdneeaaDoor
open Go.RowKit

/-- a number as an int -/
def zag (n : Nat) : Int := if n % 2 = 1 then -((n / 2 : Nat) : Int) - 1 else ((n / 2 : Nat) : Int)
def Rd.int (o : Option (List UInt8)) : Int × Option (List UInt8) := (zag (Rd.num 18446744073709551615 o).1, (Rd.num 18446744073709551615 o).2)
def Rd.text (most : Nat) (o : Option (List UInt8)) : List UInt8 × Option (List UInt8) :=
  match Rd.num most o with
  | (n, some l) => if n ≤ l.length then (l.take n, some (l.drop n)) else ([], none)
  | (_, none) => ([], none)
def Rd.bool (o : Option (List UInt8)) : Bool × Option (List UInt8) := (decide ((Rd.take o).1.toNat = 1), if 1 < (Rd.take o).1.toNat then none else (Rd.take o).2)
def Rd.left (o : Option (List UInt8)) : Nat := (o.map List.length).getD 0

theorem Rd.num_lt (most : Nat) (o : Option (List UInt8)) : (Rd.num most o).1 ≤ most := by
  unfold Rd.num
  split
  · split
    · assumption
    · exact Nat.zero_le _
  · exact Nat.zero_le _

theorem zag_bits (n : Nat) (hn : n ≤ 18446744073709551615) : bits .xor .i64 ((n : Int) / 2) (wrap64 (-wrap64 (bits .and .u64 (n : Int) 1))) = zag n := by
  have h1 : bits .and .u64 (n : Int) 1 = ((n % 2 : Nat) : Int) := by
    rw [show (1 : Int) = ((1 : Nat) : Int) by rfl, bits_and_u64_nat _ _ (by omega) (by omega), nat_mask1]
  have h2 : (BitVec.ofInt 64 ((n : Int) / 2)).toNat = n / 2 := by
    rw [show (n : Int) / 2 = ((n / 2 : Nat) : Int) by omega, BitVec.ofInt_natCast, BitVec.toNat_ofNat]; exact Nat.mod_eq_of_lt (by omega)
  rw [h1]
  unfold zag
  rcases Nat.mod_two_eq_zero_or_one n with h | h
  · rw [h, if_neg (by omega)]
    show IntKind.i64.wrap ((BitVec.ofInt 64 ((n : Int) / 2) ^^^ BitVec.ofInt 64 (wrap64 (-wrap64 ((0 : Nat) : Int)))).toNat : Int) = _
    rw [BitVec.toNat_xor, h2, show (BitVec.ofInt 64 (wrap64 (-wrap64 ((0 : Nat) : Int)))).toNat = 0 by first | rfl | simp [wrap64], Nat.xor_zero]
    rw [IntWalk.i64_left]
    unfold wrap64
    omega
  · rw [h, if_pos rfl]
    show IntKind.i64.wrap ((BitVec.ofInt 64 ((n : Int) / 2) ^^^ BitVec.ofInt 64 (wrap64 (-wrap64 ((1 : Nat) : Int)))).toNat : Int) = _
    rw [BitVec.toNat_xor, h2, show (BitVec.ofInt 64 (wrap64 (-wrap64 ((1 : Nat) : Int)))).toNat = 18446744073709551615 by first | rfl | simp [wrap64], not64 _ (by omega)]
    rw [IntWalk.i64_left]
    unfold wrap64
    omega

set_option maxRecDepth 10000 in
set_option maxHeartbeats 400000 in
theorem left_any (B : Nat) (v : Value) (o : Option (List UInt8)) (w : World) (hr : RdAt B w v o) :
    Calls Tryd.prog 47 #[v] w fun e w' => e = .returned (.int .i64 (Rd.left o)) ∧ w' = w := by
  rcases hr with ⟨rfl, rfl⟩ | ⟨g, u, rfl, hgB, ⟨rfl, hg⟩ | ⟨l, rfl, hg, hb, _⟩⟩
  · go_enter Tryd.func47, Tryd.ntmps47
    go_wp2
    go_ret
    exact ⟨rfl, rfl⟩
  · have hc0 : w.cell? ⟨g, 0, none⟩ = some (.slice none 0 0) := cell_of_row w g 0 _ _ _ hg
    clear hg
    go_enter Tryd.func47, Tryd.ntmps47
    go_wp2
    go_ret
    exact ⟨rfl, rfl⟩
  · have hc0 : w.cell? ⟨g, 0, none⟩ = some u := cell_of_row w g 0 _ _ _ hg
    obtain ⟨a, c, rfl, _⟩ := hb
    clear hg
    go_enter Tryd.func47, Tryd.ntmps47
    go_wp2
    go_ret
    exact ⟨rfl, rfl⟩

set_option maxRecDepth 10000 in
set_option maxHeartbeats 400000 in
theorem done_any (B : Nat) (v : Value) (o : Option (List UInt8)) (w : World) (hr : RdAt B w v o) :
    Calls Tryd.prog 49 #[v] w fun e w' => e = .returned (.int .i64 (if o = some [] then 0 else 2)) ∧ w' = w := by
  have HR := Lib.hid hr
  rcases hr with ⟨rfl, rfl⟩ | ⟨g, u, rfl, hgB, ⟨rfl, hg⟩ | ⟨l, rfl, hg, hb, _⟩⟩
  · go_enter Tryd.func49, Tryd.ntmps49
    go_wp2_with (go_at_call 69; refine (wrong_any B _ _ _ HR.out).mono ?_; rintro e w2 ⟨rfl, rfl⟩; simp only [Option.isNone])
    go_ret
    exact ⟨rfl, rfl⟩
  · clear hg
    go_enter Tryd.func49, Tryd.ntmps49
    go_wp2_with (go_at_call 69; refine (wrong_any B _ _ _ HR.out).mono ?_; rintro e w2 ⟨rfl, rfl⟩; simp only [Option.isNone])
    go_ret
    exact ⟨rfl, rfl⟩
  · have hc0 : w.cell? ⟨g, 0, none⟩ = some u := cell_of_row w g 0 _ _ _ hg
    obtain ⟨a, c, rfl, _⟩ := hb
    clear hg
    cases l
    all_goals
      go_enter Tryd.func49, Tryd.ntmps49
      go_wp2_with (go_at_call 69; refine (wrong_any B _ _ _ HR.out).mono ?_; rintro e w2 ⟨rfl, rfl⟩; simp only [Option.isNone])
      go_ret
      exact ⟨rfl, rfl⟩

theorem RdAt.nil_some {B : Nat} {w : World} {l : List UInt8} (h : RdAt B w (.pointer none) (some l)) : False := by
  rcases h with ⟨_, h⟩ | ⟨g, u, h, _⟩
  · cases h
  · cases h

theorem RdAt.fields {B : Nat} {w : World} {g : Nat} {l : List UInt8} (h : RdAt B w (.pointer (some ⟨g, 0, none⟩)) (some l)) :
    ∃ a c, w.cell? ⟨g, 0, none⟩ = some (.slice a l.length c) ∧ l.length ≤ 9223372036854775807 ∧ l.length ≤ c ∧ w.frozen? ⟨g, 0, none⟩ = false ∧ Hid (w.heap[g]? = some (.cells #[.slice a l.length c, .bool false] 117 (0, 0))) ∧
      Hid (Bytes w (.slice a l.length c) l) ∧ Hid (∀ k i n c', l ≠ [] → Value.slice a l.length c = .slice (some ⟨k, i, none⟩) n c' → k < B) := by
  rcases h with ⟨h, _⟩ | ⟨g', u, h, _, ⟨h', _⟩ | ⟨l', h', hg, hb, hB⟩⟩
  · cases h
  · cases h'
  · cases h
    cases h'
    have hb' := hb
    obtain ⟨a, c, rfl, h1, h2, _⟩ := hb
    exact ⟨a, c, cell_of_row w g 0 _ _ _ hg, by unfold maxLen at h1; omega, h2, frozen_of_row w g 0 _ _ hg, Lib.hid hg, Lib.hid hb', Lib.hid hB⟩

theorem bytes_lt {w : World} {k i n c : Nat} {l : List UInt8} (h : Bytes w (.slice (some ⟨k, i, none⟩) n c) l) (hl : l ≠ []) : k < w.heap.size := by
  obtain ⟨a', c', e, _, _, _, h | ⟨g, o, ha, h⟩⟩ := h
  · exact absurd h hl
  · cases e
    cases ha
    cases l with
    | nil => exact absurd rfl hl
    | cons b l =>
      obtain ⟨u, hu, _⟩ := h 0 b rfl
      exact block_lt_of_cell hu

theorem reader_ne {w : World} {g k i n c T : Nat} {b : Bool} {l : List UInt8} (hg : w.heap[g]? = some (.cells #[.slice (some ⟨k, i, none⟩) n c, .bool b] T (0, 0)))
    (h : Bytes w (.slice (some ⟨k, i, none⟩) n c) l) (hl : l ≠ []) : k ≠ g := by
  rintro rfl
  obtain ⟨a', c', e, _, _, _, h | ⟨g, o, ha, h⟩⟩ := h
  · exact absurd h hl
  · cases e
    cases ha
    cases l with
    | nil => exact absurd rfl hl
    | cons x l =>
      obtain ⟨y, hy, rfl⟩ := h 0 x rfl
      rw [cell_row hg] at hy
      rcases i with _ | _ | i
      · cases hy
      · cases hy
      · simp at hy

theorem rd_drop {B : Nat} {w : World} {g : Nat} {a : Option Addr} {c : Nat} {l : List UInt8} (hgB : g < B) (hg : w.heap[g]? = some (.cells #[.slice a l.length c, .bool false] 117 (0, 0)))
    (hb : Bytes w (.slice a l.length c) l) (hB : ∀ k i n c', l ≠ [] → Value.slice a l.length c = .slice (some ⟨k, i, none⟩) n c' → k < B) (m : Nat) (hm : m ≤ l.length) :
    RdAt B (w.setCell ⟨g, 0, none⟩ (.slice (if c = m then a else a.map (·.add m)) (l.length - m) (c - m))) (.pointer (some ⟨g, 0, none⟩)) (some (l.drop m)) := by
  have hs := hb.suffix m hm
  have key : ∀ k i n c', l.drop m ≠ [] → Value.slice (if c = m then a else a.map (·.add m)) (l.length - m) (c - m) = .slice (some ⟨k, i, none⟩) n c' → k < B ∧ k ≠ g := by
    intro k i n c' hl e
    have hl0 : l ≠ [] := fun h => hl (by simp [h])
    have hlt : m < l.length := by
      rcases Nat.lt_or_ge m l.length with h | h
      · exact h
      · exact absurd (List.drop_eq_nil_of_le h) hl
    obtain ⟨a', c2, e2, _, hc, _, h | ⟨g0, o0, ha, _⟩⟩ := id hb
    · exact absurd h hl0
    · cases e2
      subst ha
      rw [if_neg (by omega), Option.map_some, Addr.add_mid] at e
      cases e
      exact ⟨hB _ _ _ _ hl0 rfl, reader_ne hg hb hl0⟩
  exact .inr ⟨g, _, rfl, hgB, .inr ⟨_, rfl, set_first hg _, Bytes.only (S := fun k => k = g) hs (Only.setCell w _ _) (fun k i n c' hl e => (key k i n c' hl e).2), fun k i n c' hl e => (key k i n c' hl e).1⟩⟩

set_option maxRecDepth 10000 in
set_option maxHeartbeats 400000 in
theorem tread_any (p : Value) (l : List UInt8) (w : World) (hp : Bytes w p l) (hbig : l.length ≤ 140737488355328) :
    Calls Tryd.prog 46 #[p] w fun e w' => ∃ v, e = .returned v ∧ RdAt w'.heap.size w' v (some l) ∧ Below w.heap.size w w' ∧ ∀ k, v = .pointer (some ⟨k, 0, none⟩) → w.heap.size ≤ k := by
  go_enter Tryd.func46, Tryd.ntmps46
  go_wp2_with (go_at_call 55; refine (clone_any p l w hp hbig).mono ?_; rintro e w1 ⟨v1, rfl, hown1, hb1⟩; obtain ⟨a1, n1, c1, rfl⟩ := hown1.isSlice)
  go_ret
  have hb2 := bal (bre w1) (.cells #[.slice a1 n1 c1, .bool false] 117)
  have hg := heap_alloc_new w1 (.cells #[.slice a1 n1 c1, .bool false] 117)
  have hlt := hb2.size
  refine ⟨_, rfl, .inr ⟨w1.heap.size, _, rfl, by simp, .inr ⟨l, rfl, hg, hown1.bytes.below hb2, fun k i n c hl e => ?_⟩⟩, btr hb1 hb2, fun k e => by cases e; exact hb1.size⟩
  cases e
  exact Nat.lt_of_lt_of_le (bytes_lt hown1.bytes hl) hlt

set_option maxRecDepth 10000 in
set_option maxHeartbeats 400000 in
theorem trtext_any (B : Nat) (v : Value) (o : Option (List UInt8)) (most : Nat) (w : World) (hm : most < 9223372036854775808) (hr : RdAt B w v o) :
    Calls Tryd.prog 48 #[v, .int .i64 most] w fun e w' => e = .returned (.string (strOf (Rd.text most o).1)) ∧ RdAt B w' v (Rd.text most o).2 ∧ Turned w w' v := by
  have hn := trnum_any B v o most w hr
  have hlt := Rd.num_lt most o
  unfold Rd.text
  generalize Rd.num most o = r at *
  obtain ⟨n, o'⟩ := r
  simp only at hn hlt
  have HN := Lib.hid hn
  clear hn
  cases o' with
  | none =>
    go_enter Tryd.func48, Tryd.ntmps48
    go_wp2_with first
      | (go_at_call 68; refine HN.out.mono ?_; rintro e w1 ⟨rfl, hr1, ht1⟩)
      | (go_at_call 69; refine (wrong_any B _ _ _ hr1).mono ?_; rintro e w2 ⟨rfl, rfl⟩; simp only [Option.isNone])
      | (go_at_call 70; refine (fail_any B v _ _ hr1).mono ?_; rintro e w3 ⟨rfl, hr3, ht3⟩)
    go_ret
    exact ⟨rfl, hr3, ht1.trans ht3⟩
  | some l =>
    rcases hr with ⟨rfl, rfl⟩ | ⟨g, u0, rfl, hgB, _⟩
    · go_enter Tryd.func48, Tryd.ntmps48
      go_wp2_with (go_at_call 68; refine HN.out.mono ?_; rintro e w1 ⟨rfl, hr1, ht1⟩; exact hr1.nil_some.elim)
    by_cases hnl : n ≤ l.length
    · simp only [if_pos hnl]
      go_enter Tryd.func48, Tryd.ntmps48
      go_wp2_with first
        | (go_at_call 68; refine HN.out.mono ?_; rintro e w1 ⟨rfl, hr1, ht1⟩)
        | (go_at_call 69; refine (wrong_any B _ _ _ hr1).mono ?_; rintro e w2 ⟨rfl, rfl⟩; simp only [Option.isNone]; obtain ⟨a, c, hc0, hml, hcap, hf0, HG, HB, HBB⟩ := hr1.fields; have hs := run_str (P := Tryd.prog) w2 23 9 5 _ _ (SliceOf.firsts HB.out n hnl) Tryd.underlying23 Tryd.underlying5 Tryd.underlying9)
      all_goals
        go_ret
        refine ⟨rfl, ?_, ht1.trans (Turned.set w2 g 0 _)⟩
        have hrd := rd_drop hgB HG.out HB.out HBB.out n hnl
        first
          | exact hrd
          | (rw [if_neg (by assumption)] at hrd; exact hrd)
          | (subst c; rw [if_pos rfl, Nat.sub_self] at hrd; exact hrd)
    · simp only [if_neg hnl]
      go_enter Tryd.func48, Tryd.ntmps48
      go_wp2_with first
        | (go_at_call 68; refine HN.out.mono ?_; rintro e w1 ⟨rfl, hr1, ht1⟩)
        | (go_at_call 69; refine (wrong_any B _ _ _ hr1).mono ?_; rintro e w2 ⟨rfl, rfl⟩; simp only [Option.isNone]; obtain ⟨a, c, hc0, hml, hcap, hf0, HG, HB, HBB⟩ := hr1.fields)
        | (go_at_call 70; refine (fail_any B _ _ _ hr1).mono ?_; rintro e w3 ⟨rfl, hr3, ht3⟩)
      go_ret
      exact ⟨rfl, hr3, ht1.trans ht3⟩
end Go.Proofs.YtacfkhnajdneeaaDoor
/- Plain: how many bytes a number has; what is read of them. -/
namespace Go.Proofs.YtacfkhnajdneeaaDoor
open Go.RowKit

theorem zag_zig (n : Int) : zag (zig n) = n := by
  unfold zag zig
  split <;> split <;> omega

theorem ofNat_toNat {n : Nat} (h : n < 256) : (UInt8.ofNat n).toNat = n := UInt8.toNat_ofNat_of_lt' (show n < UInt8.size by simp [UInt8.size]; omega)

theorem dec_varint (n : Nat) : ∀ i acc r, i ≤ 9 → (i = 0 ∨ 0 < n) → n * 128 ^ i < 18446744073709551616 → Rd.dec i acc (Vi.varint n ++ r) = some (acc + n * 128 ^ i, r) := by
  induction n using Nat.strongRecOn with
  | _ n ih =>
    intro i acc r hi h0 hlt
    have hp : 0 < 128 ^ i := Nat.pow_pos (by omega)
    have hn64 : n < 18446744073709551616 := Nat.lt_of_le_of_lt (Nat.le_mul_of_pos_right n hp) hlt
    have h9 : i = 9 → n ≤ 1 := by
      rintro rfl
      simp only [Nat.reducePow] at hlt
      omega
    by_cases h : n < 128
    · rw [Vi.varint_small h]
      simp only [List.singleton_append, Rd.dec]
      rw [ofNat_toNat (by omega), if_neg (by omega), if_pos h, Nat.mod_eq_of_lt h]
    · rw [Vi.varint_step (by omega) hn64]
      simp only [List.cons_append, Rd.dec]
      rw [ofNat_toNat (by omega), if_neg (by omega), if_neg (by omega)]
      have e : (n % 128 + 128) % 128 = n % 128 := by omega
      have e2 : n % 128 * 128 ^ i + n / 128 * 128 ^ (i + 1) = n * 128 ^ i := by
        rw [Nat.pow_succ, Nat.mul_comm (128 ^ i) 128, ← Nat.mul_assoc, ← Nat.add_mul]
        congr 1; omega
      rw [e, ih (n / 128) (by omega) (i + 1) _ r (by omega) (.inr (by omega)) (by omega), Nat.add_assoc, e2]

theorem num_varint (n most : Nat) (r : List UInt8) (hn : n < 18446744073709551616) : Rd.num most (some (Vi.varint n ++ r)) = if n ≤ most then (n, some r) else (0, none) := by
  unfold Rd.num
  rw [Option.bind_some, dec_varint n 0 0 r (by omega) (.inl rfl) (by omega)]
  simp

/-- how many bytes stand behind the first one -/
def moreOf (q : Nat) : Nat := if q = 0 then 0 else (Vi.varint q).length

theorem len_more {n : Nat} (hn : n < 18446744073709551616) : (Vi.varint n).length = 1 + moreOf (n / 128) := by
  unfold moreOf
  by_cases h : n < 128
  · rw [Vi.varint_small h, if_pos (by omega)]; rfl
  · rw [Vi.varint_step (by omega) hn, if_neg (by omega), List.length_cons, Nat.add_comm]

theorem more_step {q : Nat} (h0 : 0 < q) (hq : q < 18446744073709551616) : moreOf q = 1 + moreOf (q / 128) := by
  rw [← len_more hq]; unfold moreOf; rw [if_neg (by omega)]

theorem len_mono (m : Nat) : ∀ n, n ≤ m → m < 18446744073709551616 → (Vi.varint n).length ≤ (Vi.varint m).length := by
  induction m using Nat.strongRecOn with
  | _ m ih =>
    intro n hnm hm
    by_cases h : n < 128
    · rw [Vi.varint_small h]; exact (Vi.varint_length m).1
    · rw [Vi.varint_step (by omega) (by omega), Vi.varint_step (by omega) hm, List.length_cons, List.length_cons]
      have := ih (m / 128) (by omega) (n / 128) (by omega) (by omega)
      omega

/-! ### a writer that has nothing yet -/
def NilW (w : World) (g : Nat) : Prop := w.heap[g]? = some (.cells #[.slice none 0 0] 80 (0, 0))
theorem NilW.lt {w : World} {g : Nat} (h : NilW w g) : g < w.heap.size := (Array.getElem?_eq_some_iff.1 h).1
theorem NilW.at {w : World} {g : Nat} (h : NilW w g) (base : Nat) : WriterAt base w g [] := ⟨_, h, Own8.nil _ _ _⟩
theorem NilW.slot {w : World} {g : Nat} (h : NilW w g) : slotBlock w g = none := slotBlock_at h
theorem NilW.below {w w' : World} {g : Nat} (h : NilW w g) (hb : Below w.heap.size w w') : NilW w' g := (hb.block g h.lt).trans h
theorem NilW.only {w w' : World} {g : Nat} {S : Nat → Prop} (h : NilW w g) (ho : Only w w' S) (hs : ¬ S g) : NilW w' g := (ho.block g h.lt hs).trans h
theorem NilW.new (w : World) (n : Nat) (hn : n = w.heap.size) : NilW (w.alloc (.cells #[.slice none 0 0] 80)) n := by subst hn; exact heap_alloc_new w _
theorem Grew.nil {w w' : World} {g : Nat} (h : Grew w w' g) (hn : NilW w g) : Only w w' (fun k => k = g) :=
  h.only.mono fun i _ hi => by
    rcases hi with hi | hi
    · exact hi
    · rw [hn.slot] at hi; cases hi

theorem bytes_slot {w w' : World} {g : Nat} {v : Value} {l : List UInt8} {T : Nat} (hx : w.heap[g]? = some (.cells #[.slice none 0 0] T (0, 0))) (ho : Only w w' (fun k => k = g)) (hv : Bytes w v l) : Bytes w' v l := by
  refine hv.only ho fun k i n c hl e hk => ?_
  subst hk
  subst e
  obtain ⟨a', c', e, _, _, _, h | ⟨g0, o0, ha, h⟩⟩ := hv
  · exact absurd h hl
  · cases e
    cases ha
    cases l with
    | nil => exact absurd rfl hl
    | cons b l =>
      obtain ⟨y, hy, rfl⟩ := h 0 b rfl
      rw [cell_row hx] at hy
      rcases i with _ | i
      · cases hy
      · simp at hy
end Go.Proofs.YtacfkhnajdneeaaDoor
/- Walk: the document's number: a number off the front. -/
namespace Go.Proofs.YtacfkhnajdneeaaDoor
open Go.RowKit

/-- a number off the front, and how many bytes it has; 0: there is none -/
def numOf (p : List UInt8) : Nat × Nat :=
  match Rd.dec 0 0 p with
  | some (n, r) => (n, p.length - r.length)
  | none => (0, 0)

theorem numOf_none {p : List UInt8} (h : Rd.dec 0 0 p = none) : numOf p = (0, 0) := by unfold numOf; rw [h]
theorem numOf_some {p r : List UInt8} {n : Nat} (h : Rd.dec 0 0 p = some (n, r)) : numOf p = (n, p.length - r.length) := by unfold numOf; rw [h]

theorem dec_ten (m : Nat) (l : List UInt8) : Rd.dec 10 m l = none := by
  cases l with
  | nil => rfl
  | cons b l => rw [Rd.dec, if_pos (by omega)]

set_option maxRecDepth 10000 in
set_option maxHeartbeats 800000 in
theorem number_any (v : Value) (p : List UInt8) (w : World) (hv : Bytes w v p) :
    Calls Tryd.prog 71 #[v] w fun e w' => e = .returned (.tuple #[.int .u64 (numOf p).1, .int .i64 (numOf p).2]) ∧ w' = w := by
  obtain ⟨a, c, rfl, hmax, hcap, _, hrow⟩ := hv
  have hmax2 : p.length ≤ 9223372036854775807 := by unfold maxLen at hmax; omega
  have HR := Lib.hid hrow
  clear hrow hmax
  go_enter Tryd.func71, Tryd.ntmps71
  go_wp2
  go_loopw [4, 5, 6] (fun n y i wr => ∃ (m j : Nat), n = .int .u64 m ∧ i = .int .i64 j ∧ y = .int .u64 ((128 ^ j % 18446744073709551616 : Nat) : Int) ∧ j ≤ 10 ∧ j ≤ p.length ∧ m < 18446744073709551616 ∧ Hid (m < 128 ^ j) ∧ Hid (Rd.dec j m (p.drop j) = Rd.dec 0 0 p) ∧ wr = w) (fun _ _ i _ => p.length - (intOf i).toNat)
  case atStart => exact ⟨0, 0, rfl, rfl, rfl, by omega, by omega, by omega, Lib.hid (by decide), Lib.hid (by rw [List.drop_zero]), by first | rfl | trivial⟩
  case round =>
    obtain ⟨m, j, rfl, rfl, rfl, hj10, hjp, hm64, HM, HD, rfl⟩ := hrel
    by_cases hend : j = 10 ∨ j = p.length
    · have hn : Rd.dec 0 0 p = none := by
        rw [← HD.out]
        rcases hend with rfl | rfl
        · exact dec_ten _ _
        · rw [List.drop_length]; rfl
      have HN := Lib.hid (numOf_none hn)
      clear hn HD HM
      rcases hend with rfl | rfl
      all_goals go_wp2
      all_goals
        go_ret2
        rw [HN.out]
        exact ⟨rfl, rfl⟩
    · have hj1 : j < 10 := by omega
      have hj2 : j < p.length := by omega
      obtain ⟨b, hb⟩ : ∃ b, p[j]? = some b := ⟨_, List.getElem?_eq_getElem hj2⟩
      have hdrop : p.drop j = b :: p.drop (j + 1) := by
        rw [List.drop_eq_getElem_cons hj2]
        congr 1
        rw [List.getElem?_eq_getElem hj2] at hb
        exact Option.some.inj hb
      rcases HR.out with h0 | ⟨g, o, rfl, hc⟩
      · rw [h0] at hj2; simp at hj2
      obtain ⟨u, hu, rfl⟩ := hc j b hb
      unfold B8 at hu
      have hB : b.toNat < 256 := b.toNat_lt
      rw [hdrop] at HD
      clear hc hb hdrop hend
      have hY : 128 ^ j % 18446744073709551616 = 128 ^ j := Nat.mod_eq_of_lt (by
        obtain rfl | rfl | rfl | rfl | rfl | rfl | rfl | rfl | rfl | rfl : j = 0 ∨ j = 1 ∨ j = 2 ∨ j = 3 ∨ j = 4 ∨ j = 5 ∨ j = 6 ∨ j = 7 ∨ j = 8 ∨ j = 9 := by omega
        all_goals decide)
      rw [hY]
      by_cases hbad : j = 9 ∧ 1 < b.toNat % 128
      · have hn : Rd.dec 0 0 p = none := by rw [← HD.out, Rd.dec, if_pos (by omega)]
        have HN := Lib.hid (numOf_none hn)
        clear hn HD HM hY
        obtain ⟨rfl, hbad⟩ := hbad
        go_wp2
        go_ret2
        rw [HN.out]
        exact ⟨rfl, rfl⟩
      · obtain ⟨_, hn64, hn128, _⟩ := dec_or j m b.toNat (by omega) HM.out (by omega)
        have hY64 : 128 ^ j < 18446744073709551616 := by
          rw [← hY]; exact Nat.mod_lt _ (by decide)
        have hmul : ((128 ^ j : Nat) : Int) * ((b.toNat : Int) % 128) = ((b.toNat % 128 * 128 ^ j : Nat) : Int) := by
          rw [show (b.toNat : Int) % 128 = ((b.toNat % 128 : Nat) : Int) by omega, ← Int.natCast_mul, Nat.mul_comm]
        have hw1 : IntKind.u64.wrap (((128 ^ j : Nat) : Int) * ((b.toNat : Int) % 128)) = ((b.toNat % 128 * 128 ^ j : Nat) : Int) := by
          rw [hmul, IntKind.wrap_u64]; omega
        have hw2 : IntKind.u64.wrap ((m : Int) + ((b.toNat % 128 * 128 ^ j : Nat) : Int)) = ((m + b.toNat % 128 * 128 ^ j : Nat) : Int) := by
          rw [IntKind.wrap_u64]; omega
        have hlen : (p.drop (j + 1)).length = p.length - (j + 1) := List.length_drop
        clear hmul
        by_cases hlast : b.toNat < 128
        · by_cases hz : 0 < j ∧ b.toNat = 0
          · have hn : Rd.dec 0 0 p = none := by rw [← HD.out, Rd.dec, if_pos (by omega)]
            have HN := Lib.hid (numOf_none hn)
            obtain ⟨hz1, hz2⟩ := hz
            clear hn HD HM hY hn128
            generalize 128 ^ j = Y at *
            generalize hP : b.toNat % 128 * Y = P at *
            clear hP
            rcases (by omega : j = 9 ∨ j ≠ 9) with rfl | hj9
            · go_wp2
              go_ret2
              rw [HN.out]
              exact ⟨rfl, rfl⟩
            · go_wp2
              go_ret2
              rw [HN.out]
              exact ⟨rfl, rfl⟩
          · have hn : Rd.dec 0 0 p = some (m + b.toNat % 128 * 128 ^ j, p.drop (j + 1)) := by rw [← HD.out, Rd.dec, if_neg (by omega), if_pos hlast]
            have hno := numOf_some hn
            rw [hlen, show p.length - (p.length - (j + 1)) = j + 1 by omega] at hno
            have HN := Lib.hid hno
            have hzz : j = 0 ∨ (0 < j ∧ ((b.toNat : Int) == 0) = false ∧ ((b.toNat : Int) % 128 == 0) = false) := by
              rcases Nat.eq_zero_or_pos j with h | h
              · exact .inl h
              · exact .inr ⟨h, by simp; omega, by simp; omega⟩
            clear hn hno HD HM hY hn128
            generalize 128 ^ j = Y at *
            generalize hP : b.toNat % 128 * Y = P at *
            clear hP
            rcases (by omega : j = 9 ∨ j = 0 ∨ (j ≠ 9 ∧ 0 < j)) with rfl | rfl | ⟨hj9, hj0⟩
            · go_wp2
              go_ret2
              rw [HN.out]
              exact ⟨rfl, rfl⟩
            · rw [Nat.add_zero] at hu
              go_wp2
              go_ret2
              rw [HN.out]
              exact ⟨rfl, rfl⟩
            · have hzz2 : ((b.toNat : Int) % 128 == 0) = false := by simp; omega
              clear hzz
              go_wp2
              go_ret2
              rw [HN.out]
              exact ⟨rfl, rfl⟩
        · have hd : Rd.dec (j + 1) (m + b.toNat % 128 * 128 ^ j) (p.drop (j + 1)) = Rd.dec 0 0 p := by
            rw [← HD.out]
            conv => rhs; rw [Rd.dec, if_neg (by omega), if_neg hlast]
          have HN := Lib.hid hd
          have HP := Lib.hid hn128
          have hY2 : ((128 ^ (j + 1) % 18446744073709551616 : Nat) : Int) = IntKind.u64.wrap (((128 ^ j : Nat) : Int) * 128) := by
            rw [IntKind.wrap_u64, Nat.pow_succ]; omega
          have HY := Lib.hid hY2
          clear hd HD HM hY hn128 hY2
          generalize 128 ^ j = Y at *
          generalize hP : b.toNat % 128 * Y = P at *
          clear hP
          rcases (by omega : j = 9 ∨ j ≠ 9) with rfl | hj9
          all_goals go_wp2
          all_goals
            go_roundw
            case rel => exact ⟨m + P, _, rfl, by go_num, by rw [HY.out], by omega, by omega, by omega, HP, HN, by first | rfl | trivial⟩
            case measure => simp [intOf]; omega
end Go.Proofs.YtacfkhnajdneeaaDoor
/- Plain: what a number off the front is: the bytes that would be laid of it. No program is in sight. -/
namespace Go.Proofs.YtacfkhnajdneeaaDoor
open Go.RowKit

theorem dec_shape (p : List UInt8) : ∀ (i m n : Nat) (r : List UInt8), m < 128 ^ i → Rd.dec i m p = some (n, r) →
    ∃ q, n = m + q * 128 ^ i ∧ p = Vi.varint q ++ r ∧ (i = 0 ∨ 0 < q) ∧ n < 18446744073709551616 := by
  induction p with
  | nil => intro i m n r _ h; cases h
  | cons b l ih =>
    intro i m n r hm h
    have hB : b.toNat < 256 := b.toNat_lt
    rw [Rd.dec] at h
    split at h
    · cases h
    · rename_i hc
      have hi : i ≤ 9 := by omega
      have hl : i < 9 ∨ b.toNat % 128 ≤ 1 := by omega
      obtain ⟨_, h64, h128, _⟩ := dec_or i m b.toNat hi hm hl
      split at h
      · rename_i hb
        cases h
        refine ⟨b.toNat, by rw [Nat.mod_eq_of_lt hb], ?_, by omega, h64⟩
        rw [Vi.varint_small hb]
        simp
      · rename_i hb
        obtain ⟨q, h1, h2, h3, h4⟩ := ih (i + 1) _ n r h128 h
        have hq : 0 < q := by omega
        have e : n = m + (b.toNat % 128 + 128 * q) * 128 ^ i := by
          rw [h1, Nat.pow_succ, Nat.add_mul, Nat.add_assoc]
          congr 2
          rw [Nat.mul_comm (128 ^ i) 128, ← Nat.mul_assoc, Nat.mul_comm q 128]
        have hp : 0 < 128 ^ i := Nat.pow_pos (by omega)
        have hle : b.toNat % 128 + 128 * q ≤ (b.toNat % 128 + 128 * q) * 128 ^ i := Nat.le_mul_of_pos_right _ hp
        refine ⟨b.toNat % 128 + 128 * q, e, ?_, .inr (by omega), h4⟩
        · rw [Vi.varint_step (by omega) (by omega), h2, List.cons_append]
          congr 1
          · rw [show (b.toNat % 128 + 128 * q) % 128 + 128 = b.toNat by omega]; simp
          · rw [show (b.toNat % 128 + 128 * q) / 128 = q by omega]

theorem dec_front {p r : List UInt8} {n : Nat} (h : Rd.dec 0 0 p = some (n, r)) : p = Vi.varint n ++ r ∧ n < 18446744073709551616 ∧ (numOf p).1 = n ∧ (numOf p).2 = (Vi.varint n).length ∧ 0 < (Vi.varint n).length := by
  obtain ⟨q, h1, h2, h3, h4⟩ := dec_shape p 0 0 n r (by simp) h
  have hq : q = n := by simp at h1; exact h1.symm
  subst hq
  refine ⟨h2, h4, by rw [numOf_some h], ?_, (Vi.varint_length q).1⟩
  rw [numOf_some h, h2]
  simp
end Go.Proofs.YtacfkhnajdneeaaDoor
/- Plain: records in a row, and how they are cut off bytes. -/
namespace Go.Proofs.YtacfkhnajdneeaaDoor

theorem num_of_dec {p r : List UInt8} {n most : Nat} (h : Rd.dec 0 0 p = some (n, r)) : Rd.num most (some p) = if n ≤ most then (n, some r) else (0, none) := by
  unfold Rd.num; simp [h]

def layOne (p : List UInt8) : List UInt8 := Vi.varint p.length ++ p
def layAll (l : List (List UInt8)) : List UInt8 := l.flatMap layOne
theorem layAll_cons (x : List UInt8) (l : List (List UInt8)) : layAll (x :: l) = layOne x ++ layAll l := rfl
theorem layAll_app (l m : List (List UInt8)) : layAll (l ++ m) = layAll l ++ layAll m := by unfold layAll; rw [List.flatMap_append]
theorem layAll_one (x : List UInt8) : layAll [x] = layOne x := by unfold layAll; simp
theorem layOne_pos (p : List UInt8) : 0 < (layOne p).length := by
  unfold layOne
  rw [List.length_append]
  have := (Vi.varint_length p.length).1
  omega

/-- a record off the front -/
def cutOne (p : List UInt8) : Option (List UInt8 × List UInt8) :=
  match Rd.text 65536 (some p) with
  | (s, some r) => some (s, r)
  | (_, none) => none

theorem cutOne_lay (x t : List UInt8) (hx : x.length ≤ 65536) : cutOne (layOne x ++ t) = some (x, t) := by
  unfold cutOne Rd.text layOne
  rw [List.append_assoc, num_varint _ _ _ (by omega), if_pos hx]
  simp only [List.length_append]
  rw [if_pos (by omega), List.take_left, List.drop_left]

theorem cutOne_some {p s r : List UInt8} (h : cutOne p = some (s, r)) : p = layOne s ++ r ∧ s.length ≤ 65536 := by
  unfold cutOne Rd.text at h
  cases hd : Rd.dec 0 0 p with
  | none =>
    rw [Rd.num_none (by simp [hd])] at h
    simp at h
  | some x =>
    obtain ⟨n, l⟩ := x
    rw [num_of_dec hd] at h
    obtain ⟨h1, h2, _⟩ := dec_front hd
    by_cases hn : n ≤ 65536
    · rw [if_pos hn] at h
      simp only at h
      by_cases hl : n ≤ l.length
      · rw [if_pos hl] at h
        simp only [Option.some.injEq, Prod.mk.injEq] at h
        obtain ⟨rfl, rfl⟩ := h
        have hlen : (l.take n).length = n := by rw [List.length_take]; omega
        refine ⟨?_, by omega⟩
        unfold layOne
        rw [hlen, List.append_assoc, List.take_append_drop]
        exact h1
      · rw [if_neg hl] at h
        simp at h
    · rw [if_neg hn] at h
      simp at h

theorem cutOne_nil : cutOne [] = none := rfl

theorem cutOne_take {p s r : List UInt8} (h : cutOne p = some (s, r)) (m : Nat) : cutOne (p.take m) = if (layOne s).length ≤ m then some (s, r.take (m - (layOne s).length)) else none := by
  obtain ⟨h1, h2⟩ := cutOne_some h
  by_cases hm : (layOne s).length ≤ m
  · rw [if_pos hm, h1, List.take_append, List.take_of_length_le hm]
    exact cutOne_lay _ _ h2
  · rw [if_neg hm]
    cases hq : cutOne (p.take m) with
    | none => rfl
    | some x =>
      obtain ⟨s', r'⟩ := x
      obtain ⟨e1, e2⟩ := cutOne_some hq
      have h3 : p = layOne s' ++ (r' ++ p.drop m) := by rw [← List.append_assoc, ← e1, List.take_append_drop]
      have h4 := cutOne_lay s' (r' ++ p.drop m) e2
      rw [← h3, h] at h4
      cases h4
      have h5 := congrArg List.length e1
      rw [List.length_take, List.length_append] at h5
      omega

theorem cutOne_take_none {p : List UInt8} (h : cutOne p = none) (m : Nat) : cutOne (p.take m) = none := by
  cases hq : cutOne (p.take m) with
  | none => rfl
  | some x =>
    obtain ⟨s', r'⟩ := x
    obtain ⟨e1, e2⟩ := cutOne_some hq
    have h3 : p = layOne s' ++ (r' ++ p.drop m) := by rw [← List.append_assoc, ← e1, List.take_append_drop]
    have h4 := cutOne_lay s' (r' ++ p.drop m) e2
    rw [← h3, h] at h4
    cases h4

def cutF : Nat → List UInt8 → List (List UInt8)
  | 0, _ => []
  | f + 1, p =>
    match cutOne p with
    | some (s, r) => s :: cutF f r
    | none => []
/-- all records that are whole -/
def cutL (p : List UInt8) : List (List UInt8) := cutF p.length p

theorem cutF_fuel : ∀ (f : Nat) (p : List UInt8), p.length ≤ f → cutF f p = cutF p.length p := by
  intro f
  induction f using Nat.strongRecOn with
  | _ f ih =>
    intro p hf
    cases hp : p.length with
    | zero =>
      have : p = [] := List.eq_nil_of_length_eq_zero hp
      subst this
      cases f with
      | zero => rfl
      | succ f => rfl
    | succ k =>
      obtain ⟨f, rfl⟩ : ∃ f', f = f' + 1 := ⟨f - 1, by omega⟩
      unfold cutF
      cases hq : cutOne p with
      | none => rfl
      | some x =>
        obtain ⟨s, r⟩ := x
        obtain ⟨e1, _⟩ := cutOne_some hq
        have hl := congrArg List.length e1
        rw [List.length_append] at hl
        have := layOne_pos s
        simp only
        rw [ih f (by omega) r (by omega)]
        by_cases hk : k = f
        · rw [hk, ih f (by omega) r (by omega)]
        · rw [ih k (by omega) r (by omega)]

theorem cutL_some {p s r : List UInt8} (h : cutOne p = some (s, r)) : cutL p = s :: cutL r := by
  obtain ⟨e1, _⟩ := cutOne_some h
  have hl := congrArg List.length e1
  rw [List.length_append] at hl
  have := layOne_pos s
  unfold cutL
  obtain ⟨k, hk⟩ : ∃ k, p.length = k + 1 := ⟨p.length - 1, by omega⟩
  rw [hk, cutF, h]
  simp only
  rw [cutF_fuel k r (by omega)]

theorem cutL_none {p : List UInt8} (h : cutOne p = none) : cutL p = [] := by
  unfold cutL
  cases hp : p.length with
  | zero => rfl
  | succ k => rw [cutF, h]

theorem cutL_lay (l : List (List UInt8)) (t : List UInt8) (h : ∀ x ∈ l, x.length ≤ 65536) : cutL (layAll l ++ t) = l ++ cutL t := by
  induction l with
  | nil => rfl
  | cons x l ih =>
    rw [layAll_cons, List.append_assoc, cutL_some (cutOne_lay x (layAll l ++ t) (h x (by simp))), ih fun y hy => h y (by simp [hy])]
    rfl

theorem cutL_lay' (l : List (List UInt8)) (h : ∀ x ∈ l, x.length ≤ 65536) : cutL (layAll l) = l := by
  have := cutL_lay l [] h
  rw [List.append_nil] at this
  rw [this, cutL_none cutOne_nil, List.append_nil]

theorem cutL_front : ∀ (n : Nat) (p : List UInt8), p.length ≤ n → ∃ t, p = layAll (cutL p) ++ t ∧ cutOne t = none ∧ ∀ x ∈ cutL p, x.length ≤ 65536 := by
  intro n
  induction n with
  | zero =>
    intro p hp
    have : p = [] := List.eq_nil_of_length_eq_zero (by omega)
    subst this
    exact ⟨[], rfl, rfl, fun x hx => by rw [cutL_none cutOne_nil] at hx; simp at hx⟩
  | succ n ih =>
    intro p hp
    cases hq : cutOne p with
    | none => exact ⟨p, by rw [cutL_none hq]; rfl, hq, fun x hx => by rw [cutL_none hq] at hx; simp at hx⟩
    | some y =>
      obtain ⟨s, r⟩ := y
      obtain ⟨e1, e2⟩ := cutOne_some hq
      have hl := congrArg List.length e1
      rw [List.length_append] at hl
      have := layOne_pos s
      obtain ⟨t, h1, h2, h3⟩ := ih r (by omega)
      refine ⟨t, ?_, h2, ?_⟩
      · rw [cutL_some hq, layAll_cons, List.append_assoc, ← h1]
        exact e1
      · intro x hx
        rw [cutL_some hq] at hx
        rcases List.mem_cons.1 hx with rfl | hx
        · exact e2
        · exact h3 x hx

theorem cut_open (p : List UInt8) : ∃ t, p = layAll (cutL p) ++ t ∧ cutOne t = none ∧ ∀ x ∈ cutL p, x.length ≤ 65536 := cutL_front p.length p (Nat.le_refl _)
theorem cut_le (p : List UInt8) : (layAll (cutL p)).length ≤ p.length := by
  obtain ⟨t, h, _⟩ := cut_open p
  have := congrArg List.length h
  rw [List.length_append] at this
  omega
theorem cut_take_eq (p : List UInt8) : p.take (layAll (cutL p)).length = layAll (cutL p) := by
  obtain ⟨t, h, _⟩ := cut_open p
  have h2 : (layAll (cutL p) ++ t).take (layAll (cutL p)).length = layAll (cutL p) := List.take_left
  rw [← h] at h2
  exact h2

/-- a beginning of bytes is cut into a beginning of their records -/
theorem cut_begin : ∀ (n : Nat) (p : List UInt8) (m : Nat), p.length ≤ n → (∃ k, cutL (p.take m) = (cutL p).take k) ∧ ∀ k, (layAll ((cutL p).take k)).length ≤ m → ∃ j, k ≤ j ∧ cutL (p.take m) = (cutL p).take j := by
  intro n
  induction n with
  | zero =>
    intro p m hp
    have : p = [] := List.eq_nil_of_length_eq_zero (by omega)
    subst this
    rw [List.take_nil]
    exact ⟨⟨0, rfl⟩, fun k _ => ⟨k, Nat.le_refl _, by rw [cutL_none cutOne_nil, List.take_nil]⟩⟩
  | succ n ih =>
    intro p m hp
    cases hq : cutOne p with
    | none =>
      rw [cutL_none hq, cutL_none (cutOne_take_none hq m)]
      exact ⟨⟨0, rfl⟩, fun k _ => ⟨k, Nat.le_refl _, by rw [List.take_nil]⟩⟩
    | some y =>
      obtain ⟨s, r⟩ := y
      obtain ⟨e1, e2⟩ := cutOne_some hq
      have hl := congrArg List.length e1
      rw [List.length_append] at hl
      have hpos := layOne_pos s
      have ht := cutOne_take hq m
      rw [cutL_some hq]
      by_cases hm : (layOne s).length ≤ m
      · rw [if_pos hm] at ht
        rw [cutL_some ht]
        obtain ⟨⟨k, h1⟩, h2⟩ := ih r (m - (layOne s).length) (by omega)
        refine ⟨⟨k + 1, by rw [List.take_succ_cons, h1]⟩, fun k' hk' => ?_⟩
        cases k' with
        | zero => exact ⟨k + 1, by omega, by rw [List.take_succ_cons, h1]⟩
        | succ k' =>
          rw [List.take_succ_cons, layAll_cons, List.length_append] at hk'
          obtain ⟨j, hj, h3⟩ := h2 k' (by omega)
          exact ⟨j + 1, by omega, by rw [List.take_succ_cons, h3]⟩
      · rw [if_neg hm] at ht
        rw [cutL_none ht]
        refine ⟨⟨0, rfl⟩, fun k hk => ?_⟩
        cases k with
        | zero => exact ⟨0, Nat.le_refl _, rfl⟩
        | succ k =>
          rw [List.take_succ_cons, layAll_cons, List.length_append] at hk
          omega

theorem cut_prefix (p : List UInt8) (m : Nat) : ∃ k, cutL (p.take m) = (cutL p).take k := (cut_begin p.length p m (Nat.le_refl _)).1
theorem cut_covers (p : List UInt8) (m k : Nat) (h : (layAll ((cutL p).take k)).length ≤ m) : ∃ j, k ≤ j ∧ cutL (p.take m) = (cutL p).take j := (cut_begin p.length p m (Nat.le_refl _)).2 k h
theorem cut_whole (p : List UInt8) (m : Nat) (h : (layAll (cutL p)).length ≤ m) : cutL (p.take m) = cutL p := by
  obtain ⟨j, hj, h2⟩ := cut_covers p m (cutL p).length (by rw [List.take_length]; exact h)
  rw [h2, List.take_of_length_le hj]
end Go.Proofs.YtacfkhnajdneeaaDoor
/- What Parse answers, plainly, of what is opened. -/
namespace Go.Proofs.YtacfkhnajdneeaaDoor

theorem seal_take (q : List UInt8) (hq : q.length = 508) : (seal8 q).take 508 = q := by
  unfold seal8
  rw [List.take_append_of_le_length (by omega), List.take_of_length_le (by omega)]

/-- the parts of what is opened -/
theorem parse_parts (b : List UInt8) (hs : b = seal8 (b.take 508)) (m0 m1 c0 c1 c2 c3 d0 d1 d2 d3 e0 e1 e2 e3 kd y0 y1 : UInt8) (t : List UInt8)
    (hq : b.take 508 = m0 :: m1 :: c0 :: c1 :: c2 :: c3 :: d0 :: d1 :: d2 :: d3 :: e0 :: e1 :: e2 :: e3 :: kd :: y0 :: y1 :: t) :
    lenOf b = y0.toNat * 256 + y1.toNat ∧ b.getD 14 0 = kd ∧ b.take 2 = [m0, m1] ∧
    pgOf (b.take 508) = ⟨val [c0, c1, c2, c3], val [d0, d1, d2, d3], val [e0, e1, e2, e3], kd.toNat, t.take (y0.toNat * 256 + y1.toNat)⟩ := by
  have hb : b = m0 :: m1 :: c0 :: c1 :: c2 :: c3 :: d0 :: d1 :: d2 :: d3 :: e0 :: e1 :: e2 :: e3 :: kd :: y0 :: y1 :: (t ++ lows (crc8 (b.take 508))) := by
    conv => lhs; rw [hs]
    unfold seal8
    conv => lhs; arg 1; rw [hq]
    rfl
  refine ⟨?_, ?_, ?_, ?_⟩
  · rw [hb]; exact val2 y0 y1
  · rw [hb]; rfl
  · rw [hb]; rfl
  · rw [hq, ← val2 y0 y1]; rfl

theorem parseOf_form (b : List UInt8) (hl : b.length = 512) (hz : ¬ noughts b) (hs : b = seal8 (b.take 508)) (h : b.getD 14 0 = 0 ∨ 491 < lenOf b ∨ ¬ (b.take 2 = mark ∧ noughts ((b.take 508).drop (17 + lenOf b)))) : parseOf b = (2, Pg.zero) := by
  unfold parseOf
  rw [if_neg (by omega), if_neg hz, if_neg (fun hn => hn hs), if_pos h]

theorem parseOf_ok (b : List UInt8) (hl : b.length = 512) (hz : ¬ noughts b) (hs : b = seal8 (b.take 508)) (h : ¬ (b.getD 14 0 = 0 ∨ 491 < lenOf b ∨ ¬ (b.take 2 = mark ∧ noughts ((b.take 508).drop (17 + lenOf b))))) : parseOf b = (0, pgOf (b.take 508)) := by
  unfold parseOf
  rw [if_neg (by omega), if_neg hz, if_neg (fun hn => hn hs), if_neg h]

theorem parseOf_arg (b : List UInt8) (hl : b.length ≠ 512) : parseOf b = (1, Pg.zero) := by
  unfold parseOf; rw [if_pos hl]
theorem parseOf_none (b : List UInt8) (hl : b.length = 512) (hz : noughts b) : parseOf b = (3, Pg.zero) := by
  unfold parseOf; rw [if_neg (by omega), if_pos hz]
theorem parseOf_corrupt (b : List UInt8) (hl : b.length = 512) (hz : ¬ noughts b) (hs : b ≠ seal8 (b.take 508)) : parseOf b = (7, Pg.zero) := by
  unfold parseOf; rw [if_neg (by omega), if_neg hz, if_pos hs]

/-- a page's sealed bytes are read as that page -/
theorem parseOf_seal (p : Pg) (ok : p.Ok) (hk : p.kind ≠ 0) (hd : p.data.length ≤ 491) : parseOf (seal8 p.raw) = (0, p) := by
  have hrl := raw_length p hd
  have ht := seal_take p.raw hrl
  have hlen : (seal8 p.raw).length = 512 := by rw [seal_length, hrl]
  have hget : (seal8 p.raw).getD 14 0 = UInt8.ofNat p.kind := rfl
  have hkn : UInt8.ofNat p.kind ≠ 0 := fun h => hk (by
    have := congrArg UInt8.toNat h
    rw [toNat_ofNat8 _ ok.kind] at this
    simpa using this)
  have hnz : ¬ noughts (seal8 p.raw) := fun h => by
    have h0 : (104 : UInt8) ∈ seal8 p.raw := by
      show (104 : UInt8) ∈ 104 :: _
      exact List.mem_cons_self
    have := h 104 h0
    simp at this
  have hlo : lenOf (seal8 p.raw) = p.data.length := val_be2 _ (by omega)
  have hpr : noughts (p.raw.drop (17 + p.data.length)) := by
    unfold Pg.raw
    rw [List.drop_append_of_le_length (by rw [List.length_append, head_length]; omega), List.drop_of_length_le (by rw [List.length_append, head_length]; omega), List.nil_append]
    intro x hx
    exact List.eq_of_mem_replicate hx
  rw [parseOf_ok _ hlen hnz (by rw [ht]), ht, pgOf_raw p ok hd]
  rw [hget, hlo, ht]
  rintro (h | h | h)
  · exact hkn h
  · omega
  · exact h ⟨rfl, hpr⟩
end Go.Proofs.YtacfkhnajdneeaaDoor
/- Plain: a log of pages, one behind the other; what survives of it. -/
namespace Go.Proofs.YtacfkhnajdneeaaDoor

def followsB (gen i ahead : Nat) (q : Pg) : Bool := decide (q.gen = gen) && decide (q.kind = 1) && decide (q.number = i) && decide (q.data.take 4 = be4 ahead)

/-- all pages: which one is corrupt, or their bytes and their serials -/
def scanR (gen : Nat) : Nat → Nat → List (List UInt8) → Option Nat × List UInt8 × List Nat
  | _, _, [] => (none, [], [])
  | i, ahead, b :: rest =>
    if (parseOf b).1 ≠ 0 ∧ (parseOf b).1 ≠ 3 then (some i, [], [])
    else if (parseOf b).1 ≠ 0 ∨ followsB gen i ahead (parseOf b).2 = false then (none, [], [])
    else if (parseOf b).2.data.length < 491 then (none, (parseOf b).2.data.drop 4, [(parseOf b).2.serial])
    else ((scanR gen (i + 1) (parseOf b).2.serial rest).1, (parseOf b).2.data.drop 4 ++ (scanR gen (i + 1) (parseOf b).2.serial rest).2.1, (parseOf b).2.serial :: (scanR gen (i + 1) (parseOf b).2.serial rest).2.2)

theorem parse_room (b : List UInt8) : (parseOf b).2.data.length ≤ 491 := by
  unfold parseOf
  split
  · exact Nat.zero_le _
  · split
    · exact Nat.zero_le _
    · split
      · exact Nat.zero_le _
      · split
        · exact Nat.zero_le _
        · next h =>
          show ((((b.take 508).drop 17).take (lenOf (b.take 508)))).length ≤ 491
          rw [List.length_take, List.length_drop, List.length_take]
          omega

theorem be4_len (n : Nat) : (be4 n).length = 4 := rfl
theorem be4_inj {a b : Nat} (ha : a < 4294967296) (hb : b < 4294967296) (h : be4 a = be4 b) : a = b := by
  rw [← val_be4 a ha, ← val_be4 b hb, h]

/-- it is the page of a place, behind one with a serial -/
def IsPg (gen : Nat) (x : List UInt8) (j s a : Nat) (c : List UInt8) : Prop := parseOf x = (0, ⟨gen, s, j, 1, be4 a ++ c⟩) ∧ a < 4294967296 ∧ s < 4294967296 ∧ c.length ≤ 487

theorem scan_pg {gen : Nat} {x : List UInt8} {j s a : Nat} {c : List UInt8} (h : IsPg gen x j s a c) (ahead : Nat) (ha : ahead < 4294967296) (rest : List (List UInt8)) :
    scanR gen j ahead (x :: rest) = if a ≠ ahead then (none, [], []) else if c.length < 487 then (none, c, [s]) else ((scanR gen (j + 1) s rest).1, c ++ (scanR gen (j + 1) s rest).2.1, s :: (scanR gen (j + 1) s rest).2.2) := by
  obtain ⟨h1, h2, h3, h4⟩ := h
  have ht : (be4 a ++ c).take 4 = be4 a := List.take_left' rfl
  have hd : (be4 a ++ c).drop 4 = c := List.drop_left' rfl
  have hl : (be4 a ++ c).length = 4 + c.length := by rw [List.length_append, be4_len]
  have hbe : decide (be4 a = be4 ahead) = decide (a = ahead) := decide_eq_decide.2 ⟨fun e => be4_inj h2 ha e, fun e => by rw [e]⟩
  have hf : followsB gen j ahead ⟨gen, s, j, 1, be4 a ++ c⟩ = decide (a = ahead) := by
    unfold followsB
    simp only [ht, decide_true, Bool.true_and]
    exact hbe
  have e1 : (parseOf x).1 = 0 := by rw [h1]
  have e2 : (parseOf x).2 = ⟨gen, s, j, 1, be4 a ++ c⟩ := by rw [h1]
  rw [scanR, e1, e2, if_neg (fun h => h.1 rfl)]
  by_cases e : a = ahead
  · rw [if_neg (fun h => by
      rcases h with h | h
      · exact h rfl
      · rw [hf, decide_eq_true e] at h; cases h), if_neg (show ¬ (a ≠ ahead) from fun h => h e)]
    by_cases hc : c.length < 487
    · rw [if_pos (show (be4 a ++ c).length < 491 by omega), if_pos hc]
      show (none, (be4 a ++ c).drop 4, [s]) = _
      rw [hd]
    · rw [if_neg (show ¬ (be4 a ++ c).length < 491 by omega), if_neg hc]
      show (_, (be4 a ++ c).drop 4 ++ _, _) = _
      rw [hd]
  · rw [if_pos (.inr (by rw [hf]; exact decide_eq_false e)), if_pos e]

theorem scan_blank {gen : Nat} {x : List UInt8} (h : (parseOf x).1 = 3) (j ahead : Nat) (rest : List (List UInt8)) : scanR gen j ahead (x :: rest) = (none, [], []) := by
  rw [scanR, if_neg (by rw [h]; simp), if_pos (by rw [h]; simp)]

/-- a content that a log may leave -/
def Tame (gen S j : Nat) (x : List UInt8) : Prop := (parseOf x).1 = 3 ∨ ∃ s a c, IsPg gen x j s a c ∧ a ≤ s ∧ s < S

set_option maxRecDepth 20000 in
/-- the first pages of a log that holds so much -/
theorem scan_split (gen : Nat) : ∀ (k : Nat) (xs : List (List UInt8)) (j a : Nat) (P : List UInt8) (so : List Nat), scanR gen j a xs = (none, P, so) → k * 487 ≤ P.length →
    k ≤ xs.length ∧ k ≤ so.length ∧ scanR gen (j + k) (if k = 0 then a else so.getD (k - 1) 0) (xs.drop k) = (none, P.drop (k * 487), so.drop k) ∧
    ∀ ys : List (List UInt8), ys.take k = xs.take k → scanR gen j a ys = ((scanR gen (j + k) (if k = 0 then a else so.getD (k - 1) 0) (ys.drop k)).1, P.take (k * 487) ++ (scanR gen (j + k) (if k = 0 then a else so.getD (k - 1) 0) (ys.drop k)).2.1, so.take k ++ (scanR gen (j + k) (if k = 0 then a else so.getD (k - 1) 0) (ys.drop k)).2.2) := by
  intro k
  induction k with
  | zero =>
    intro xs j a P so h _
    refine ⟨Nat.zero_le _, Nat.zero_le _, by simpa using h, fun ys _ => by simp⟩
  | succ k ih =>
    intro xs j a P so h hk
    cases xs with
    | nil =>
      rw [scanR] at h
      cases h
      simp at hk
    | cons b rest =>
      have hroom := parse_room b
      rw [scanR] at h
      by_cases h1 : (parseOf b).1 ≠ 0 ∧ (parseOf b).1 ≠ 3
      · rw [if_pos h1] at h; cases h
      rw [if_neg h1] at h
      by_cases h2 : (parseOf b).1 ≠ 0 ∨ followsB gen j a (parseOf b).2 = false
      · rw [if_pos h2] at h
        cases h
        simp at hk
      rw [if_neg h2] at h
      by_cases h3 : (parseOf b).2.data.length < 491
      · rw [if_pos h3] at h
        cases h
        rw [List.length_drop] at hk
        omega
      rw [if_neg h3] at h
      obtain ⟨r1, y, z, hr⟩ : ∃ x y z, scanR gen (j + 1) (parseOf b).2.serial rest = (x, y, z) := ⟨_, _, _, rfl⟩
      rw [hr] at h
      simp only [Prod.mk.injEq] at h
      obtain ⟨e1, e2, e3⟩ := h
      subst e1
      have hcl : ((parseOf b).2.data.drop 4).length = 487 := by rw [List.length_drop]; omega
      have hPl : P.length = 487 + y.length := by rw [← e2, List.length_append, hcl]
      obtain ⟨i1, i2, i3, i4⟩ := ih rest (j + 1) (parseOf b).2.serial y z hr (by omega)
      have hlast : (if k + 1 = 0 then a else so.getD (k + 1 - 1) 0) = if k = 0 then (parseOf b).2.serial else z.getD (k - 1) 0 := by
        rw [if_neg (by omega), ← e3]
        cases k with
        | zero => rfl
        | succ k => rw [if_neg (by omega)]; rfl
      have hdr : P.drop ((k + 1) * 487) = y.drop (k * 487) := by
        rw [← e2, List.drop_append, List.drop_eq_nil_of_le (by omega), hcl, List.nil_append]
        congr 1
        omega
      have htk : P.take ((k + 1) * 487) = (parseOf b).2.data.drop 4 ++ y.take (k * 487) := by
        rw [← e2, List.take_append, List.take_of_length_le (by omega), hcl]
        congr 2
        omega
      rw [hlast, hdr, htk, ← e3]
      refine ⟨by rw [List.length_cons]; omega, by rw [List.length_cons]; omega, ?_, fun ys hys => ?_⟩
      · rw [List.drop_succ_cons, List.drop_succ_cons, show j + (k + 1) = j + 1 + k by omega]
        exact i3
      · cases ys with
        | nil => rw [List.take_nil, List.take_succ_cons] at hys; cases hys
        | cons b' ys =>
          rw [List.take_succ_cons, List.take_succ_cons] at hys
          obtain ⟨rfl, hys2⟩ := List.cons.inj hys
          rw [scanR, if_neg h1, if_neg h2, if_neg h3, i4 ys hys2, List.drop_succ_cons, List.take_succ_cons, show j + (k + 1) = j + 1 + k by omega]
          simp

set_option maxRecDepth 20000 in
theorem scan_serials (gen S : Nat) : ∀ (xs : List (List UInt8)) (j a : Nat) (P : List UInt8) (so : List Nat), a < 4294967296 → (∀ i x, xs[i]? = some x → Tame gen S (j + i) x) → scanR gen j a xs = (none, P, so) → ∀ s ∈ so, s < S := by
  intro xs
  induction xs with
  | nil => intro j a P so _ _ h; rw [scanR] at h; cases h; intro s hs; simp at hs
  | cons x xs ih =>
    intro j a P so ha ht h
    rcases ht 0 x rfl with h3 | ⟨s, a', c, hp, h1, h2⟩
    · rw [scan_blank h3] at h; cases h; intro s hs; simp at hs
    · rw [Nat.add_zero] at hp
      rw [scan_pg hp a ha] at h
      by_cases e : a' ≠ a
      · rw [if_pos e] at h; cases h; intro s hs; simp at hs
      rw [if_neg e] at h
      by_cases hc : c.length < 487
      · rw [if_pos hc] at h
        cases h
        intro t ht
        simp at ht
        omega
      rw [if_neg hc] at h
      obtain ⟨r1, r2, r3, hr⟩ : ∃ x y z, scanR gen (j + 1) s xs = (x, y, z) := ⟨_, _, _, rfl⟩
      rw [hr] at h
      simp only [Prod.mk.injEq] at h
      obtain ⟨rfl, -, rfl⟩ := h
      intro t ht'
      rcases List.mem_cons.1 ht' with rfl | ht'
      · exact h2
      · exact ih (j + 1) s r2 r3 hp.2.2.1 (fun i y hy => by rw [show j + 1 + i = j + (i + 1) by omega]; exact ht (i + 1) y hy) hr t ht'

set_option maxRecDepth 20000 in
/-- behind a page of before: what has been turned is not followed -/
theorem scan_mix (gen S : Nat) (hS : S < 4294967296) : ∀ (xs ys : List (List UInt8)) (j a : Nat) (P : List UInt8) (so : List Nat), xs.length = ys.length → a < S → (∀ i x, xs[i]? = some x → Tame gen S (j + i) x) →
    (∀ i x y, xs[i]? = some x → ys[i]? = some y → y = x ∨ ∃ c, IsPg gen y (j + i) S S c) → scanR gen j a xs = (none, P, so) → ∃ m, (scanR gen j a ys).1 = none ∧ (scanR gen j a ys).2.1 = P.take m := by
  intro xs
  induction xs with
  | nil =>
    intro ys j a P so hl _ _ _ h
    have : ys = [] := List.eq_nil_of_length_eq_zero hl.symm
    subst this
    rw [scanR] at h ⊢
    cases h
    exact ⟨0, rfl, rfl⟩
  | cons x xs ih =>
    intro ys j a P so hl ha ht hv h
    cases ys with
    | nil => simp at hl
    | cons y ys =>
      rcases hv 0 x y rfl rfl with rfl | ⟨c, hp⟩
      · rcases ht 0 y rfl with h3 | ⟨s, a', c, hp, h1, h2⟩
        · rw [scan_blank h3]
          exact ⟨0, rfl, rfl⟩
        · rw [Nat.add_zero] at hp
          rw [scan_pg hp a (by omega)] at h ⊢
          by_cases e : a' ≠ a
          · rw [if_pos e]; exact ⟨0, rfl, rfl⟩
          rw [if_neg e] at h ⊢
          by_cases hc : c.length < 487
          · rw [if_pos hc] at h ⊢
            cases h
            exact ⟨_, rfl, (List.take_length).symm⟩
          rw [if_neg hc] at h ⊢
          obtain ⟨r1, r2, r3, hr⟩ : ∃ x y z, scanR gen (j + 1) s xs = (x, y, z) := ⟨_, _, _, rfl⟩
          rw [hr] at h
          simp only [Prod.mk.injEq] at h
          obtain ⟨rfl, rfl, -⟩ := h
          obtain ⟨m, e1, e2⟩ := ih ys (j + 1) s r2 r3 (by simpa using hl) h2 (fun i z hz => by rw [show j + 1 + i = j + (i + 1) by omega]; exact ht (i + 1) z hz)
            (fun i z z' hz hz' => by rw [show j + 1 + i = j + (i + 1) by omega]; exact hv (i + 1) z z' hz hz') hr
          refine ⟨c.length + m, e1, ?_⟩
          simp only
          rw [e2, List.take_length_add_append]
      · rw [Nat.add_zero] at hp
        rw [scan_pg hp a (by omega), if_pos (by omega)]
        exact ⟨0, rfl, rfl⟩

set_option maxRecDepth 20000 in
/-- the same, when the first page is that of before -/
theorem scan_mix1 (gen S : Nat) (hS : S < 4294967296) (xs ys : List (List UInt8)) (j a : Nat) (P : List UInt8) (so : List Nat) (hl : xs.length = ys.length) (ha : a < 4294967296) (ht : ∀ i x, xs[i]? = some x → Tame gen S (j + i) x)
    (hv : ∀ i x y, 0 < i → xs[i]? = some x → ys[i]? = some y → y = x ∨ ∃ c, IsPg gen y (j + i) S S c) (h0 : xs[0]? = ys[0]?) (h : scanR gen j a xs = (none, P, so)) :
    ∃ m, (scanR gen j a ys).1 = none ∧ (scanR gen j a ys).2.1 = P.take m ∧ (P.length ≤ m ∨ 487 ≤ m) := by
  cases xs with
  | nil =>
    have : ys = [] := List.eq_nil_of_length_eq_zero hl.symm
    subst this
    rw [scanR] at h ⊢
    cases h
    exact ⟨0, rfl, rfl, .inl (Nat.le_refl _)⟩
  | cons x xs =>
    cases ys with
    | nil => simp at hl
    | cons y ys =>
      have e0 : x = y := by simpa using h0
      subst e0
      rcases ht 0 x rfl with h3 | ⟨s, a', c, hp, h1, h2⟩
      · rw [scan_blank h3] at h ⊢
        cases h
        exact ⟨0, rfl, rfl, .inl (Nat.le_refl _)⟩
      · rw [Nat.add_zero] at hp
        rw [scan_pg hp a ha] at h ⊢
        by_cases e : a' ≠ a
        · rw [if_pos e] at h ⊢
          cases h
          exact ⟨0, rfl, rfl, .inl (Nat.le_refl _)⟩
        rw [if_neg e] at h ⊢
        by_cases hc : c.length < 487
        · rw [if_pos hc] at h ⊢
          cases h
          exact ⟨_, rfl, (List.take_length).symm, .inl (Nat.le_refl _)⟩
        rw [if_neg hc] at h ⊢
        obtain ⟨r1, r2, r3, hr⟩ : ∃ x y z, scanR gen (j + 1) s xs = (x, y, z) := ⟨_, _, _, rfl⟩
        rw [hr] at h
        simp only [Prod.mk.injEq] at h
        obtain ⟨rfl, rfl, -⟩ := h
        obtain ⟨m, e1, e2⟩ := scan_mix gen S hS xs ys (j + 1) s r2 r3 (by simpa using hl) h2 (fun i z hz => by rw [show j + 1 + i = j + (i + 1) by omega]; exact ht (i + 1) z hz)
          (fun i z z' hz hz' => by rw [show j + 1 + i = j + (i + 1) by omega]; exact hv (i + 1) z z' (by omega) hz hz') hr
        refine ⟨c.length + m, e1, ?_, .inr (by omega)⟩
        simp only
        rw [e2, List.take_length_add_append]

set_option maxRecDepth 20000 in
/-- the pages that have been turned, one behind the other -/
theorem scan_chain (gen S : Nat) (hS : S < 4294967296) (st : List UInt8) (t : Nat) : ∀ (ys : List (List UInt8)) (j : Nat),
    (∀ i y, ys[i]? = some y → Tame gen S (j + i) y ∨ ∃ c, IsPg gen y (j + i) S S c ∧ c = (st.drop ((j + i) * 487)).take c.length) →
    (∀ i y, ys[i]? = some y → (j + i) * 487 < t → ∃ c, IsPg gen y (j + i) S S c ∧ c = (st.drop ((j + i) * 487)).take c.length ∧ (c.length = 487 ∨ t ≤ (j + i) * 487 + c.length)) → t ≤ (j + ys.length) * 487 →
    ∃ m, (scanR gen j S ys).1 = none ∧ (scanR gen j S ys).2.1 = (st.drop (j * 487)).take m ∧ (t ≤ j * 487 + m) := by
  intro ys
  induction ys with
  | nil =>
    intro j _ _ hn
    rw [scanR]
    exact ⟨0, rfl, rfl, by simpa using hn⟩
  | cons y ys ih =>
    intro j hv hf hn
    have pg : ∀ c, IsPg gen y j S S c → c = (st.drop (j * 487)).take c.length → (j * 487 < t → c.length = 487 ∨ t ≤ j * 487 + c.length) → ∃ m, (scanR gen j S (y :: ys)).1 = none ∧ (scanR gen j S (y :: ys)).2.1 = (st.drop (j * 487)).take m ∧ (t ≤ j * 487 + m) := by
      intro c hp hc hge
      rw [scan_pg hp S hS, if_neg (by simp)]
      by_cases hl : c.length < 487
      · rw [if_pos hl]
        exact ⟨c.length, rfl, hc, by omega⟩
      · rw [if_neg hl]
        have hl7 : c.length = 487 := by have := hp.2.2.2; omega
        obtain ⟨m, e1, e2, e3⟩ := ih (j + 1) (fun i z hz => by rw [show j + 1 + i = j + (i + 1) by omega]; exact hv (i + 1) z hz) (fun i z hz => by rw [show j + 1 + i = j + (i + 1) by omega]; exact hf (i + 1) z hz)
          (by rw [List.length_cons] at hn; rw [show j + 1 + ys.length = j + (ys.length + 1) by omega]; exact hn)
        refine ⟨487 + m, e1, ?_, by omega⟩
        have hc7 : c = (st.drop (j * 487)).take 487 := by rw [hl7] at hc; exact hc
        show c ++ (scanR gen (j + 1) S ys).2.1 = _
        rw [e2, List.take_add, ← hc7, List.drop_drop, show (j + 1) * 487 = j * 487 + 487 by omega]
    by_cases hj : j * 487 < t
    · obtain ⟨c, hp, hc, hge⟩ := hf 0 y rfl (by rw [Nat.add_zero]; exact hj)
      rw [Nat.add_zero] at hp hc hge
      exact pg c hp hc fun _ => hge
    · rcases hv 0 y rfl with ht | ⟨c, hp, hc⟩
      · rcases ht with h3 | ⟨s, a', c, hp, h1, h2⟩
        · rw [scan_blank h3]
          exact ⟨0, rfl, rfl, by omega⟩
        · rw [Nat.add_zero] at hp
          rw [scan_pg hp S hS, if_pos (by omega)]
          exact ⟨0, rfl, rfl, by omega⟩
      · rw [Nat.add_zero] at hp hc
        exact pg c hp hc fun h => absurd h hj
end Go.Proofs.YtacfkhnajdneeaaDoor
/- Plain: what may lie on a half while a log is written; what is read of it behind a crash. -/
namespace Go.Proofs.YtacfkhnajdneeaaDoor
set_option maxRecDepth 20000

/-- an opening: the half's sectors as they were, what was read of them, the serial of what is written from now on -/
structure Sess where
  gen : Nat
  n : Nat
  S : Nat
  old : Nat → List UInt8
  P0 : List UInt8
  so : List Nat

def Sess.all0 (z : Sess) : List (List UInt8) := cutL z.P0
def Sess.q0 (z : Sess) : Nat := (layAll z.all0).length
def Sess.i0 (z : Sess) : Nat := z.q0 / 487
def Sess.olds (z : Sess) : List (List UInt8) := (List.range z.n).map z.old
def Sess.ahead (z : Sess) (j : Nat) : Nat := if j = 0 then 0 else if j = z.i0 then z.so.getD (z.i0 - 1) 0 else z.S
structure Sess.Ok (z : Sess) : Prop where
  scan : scanR z.gen 0 0 z.olds = (none, z.P0, z.so)
  tame : ∀ j, j < z.n → Tame z.gen z.S j (z.old j)
  S32 : z.S < 4294967296

/-- a page that was written since: it holds a beginning of its place's bytes, at least to t -/
def NewPg (z : Sess) (st : List UInt8) (t j : Nat) (x : List UInt8) : Prop :=
  ∃ c, IsPg z.gen x j z.S (z.ahead j) c ∧ c = (st.drop (j * 487)).take c.length ∧ (j = z.i0 → z.q0 ≤ j * 487 + c.length) ∧ (j * 487 < t → c.length = 487 ∨ t ≤ j * 487 + c.length)

structure Inv (z : Sess) (V : Nat → List UInt8 → Prop) (all : List (List UInt8)) (synced : Nat) : Prop where
  ok : z.Ok
  big : ∀ x ∈ all, x.length ≤ 65536
  pre : all.take z.all0.length = z.all0
  room : (layAll all).length ≤ 487 * z.n
  ha : ∀ j, j < z.i0 → ∀ x, V j x → x = z.old j
  hb : ∀ j, z.i0 ≤ j → j < z.n → ∀ x, V j x → x = z.old j ∨ NewPg z (layAll all) 0 j x
  hs : synced ≤ all.length
  hd : synced ≤ z.all0.length ∨ ∀ j, z.i0 ≤ j → j < z.n → j * 487 < (layAll (all.take synced)).length → ∀ x, V j x → NewPg z (layAll all) (layAll (all.take synced)).length j x

theorem map_range_get (f : Nat → List UInt8) (n i : Nat) : ((List.range n).map f)[i]? = if i < n then some (f i) else none := by
  rw [List.getElem?_map]
  by_cases h : i < n
  · rw [if_pos h, List.getElem?_range h]; rfl
  · rw [if_neg h, List.getElem?_eq_none (by rw [List.length_range]; omega)]; rfl
theorem map_range_drop_get (f : Nat → List UInt8) (n k i : Nat) : (((List.range n).map f).drop k)[i]? = if k + i < n then some (f (k + i)) else none := by
  rw [List.getElem?_drop, map_range_get]
theorem map_range_take (f g : Nat → List UInt8) (n k : Nat) (h : ∀ j, j < k → j < n → f j = g j) : ((List.range n).map f).take k = ((List.range n).map g).take k := by
  apply List.ext_getElem?
  intro i
  rw [List.getElem?_take, List.getElem?_take]
  by_cases hi : i < k
  · rw [if_pos hi, if_pos hi, map_range_get, map_range_get]
    by_cases hn : i < n
    · rw [if_pos hn, if_pos hn, h i hi hn]
    · rw [if_neg hn, if_neg hn]
  · rw [if_neg hi, if_neg hi]

theorem layAll_take_le (l : List (List UInt8)) (k : Nat) : (layAll (l.take k)).length ≤ (layAll l).length := by
  have h : layAll l = layAll (l.take k) ++ layAll (l.drop k) := by rw [← layAll_app, List.take_append_drop]
  rw [h, List.length_append]
  omega
theorem layAll_take_lt (l : List (List UInt8)) (k j : Nat) (h : k < j) (hj : j ≤ l.length) : (layAll (l.take k)).length < (layAll (l.take j)).length := by
  have h1 : l.take j = l.take k ++ (l.drop k).take (j - k) := by
    rw [← List.take_add]
    congr 1
    omega
  have hd : l.drop k = l[k] :: l.drop (k + 1) := List.drop_eq_getElem_cons (by omega)
  have h2 : (l.drop k).take (j - k) = l[k] :: (l.drop (k + 1)).take (j - k - 1) := by
    rw [hd, show j - k = (j - k - 1) + 1 by omega, List.take_succ_cons]
    simp
  rw [h1, layAll_app, List.length_append, h2, layAll_cons, List.length_append]
  have := layOne_pos l[k]
  omega

theorem Sess.q0_le (z : Sess) : z.q0 ≤ z.P0.length := cut_le z.P0
theorem Sess.i0_le (z : Sess) : z.i0 * 487 ≤ z.q0 ∧ z.q0 < (z.i0 + 1) * 487 := by
  unfold Sess.i0
  omega

theorem Sess.Ok.split {z : Sess} (h : z.Ok) : z.i0 ≤ z.n ∧ z.i0 ≤ z.so.length ∧ z.ahead z.i0 < 4294967296 ∧ z.ahead z.i0 ≤ z.S ∧ scanR z.gen z.i0 (z.ahead z.i0) (z.olds.drop z.i0) = (none, z.P0.drop (z.i0 * 487), z.so.drop z.i0) ∧
    ∀ ys : List (List UInt8), ys.take z.i0 = z.olds.take z.i0 → scanR z.gen 0 0 ys = ((scanR z.gen z.i0 (z.ahead z.i0) (ys.drop z.i0)).1, z.P0.take (z.i0 * 487) ++ (scanR z.gen z.i0 (z.ahead z.i0) (ys.drop z.i0)).2.1, z.so.take z.i0 ++ (scanR z.gen z.i0 (z.ahead z.i0) (ys.drop z.i0)).2.2) := by
  obtain ⟨h1, h2, h3, h4⟩ := scan_split z.gen z.i0 z.olds 0 0 z.P0 z.so h.scan (by have := z.q0_le; have := z.i0_le; omega)
  have hser := scan_serials z.gen z.S z.olds 0 0 z.P0 z.so (by omega) (fun i x hx => by
    unfold Sess.olds at hx
    rw [map_range_get] at hx
    by_cases hi : i < z.n
    · rw [if_pos hi] at hx
      cases hx
      rw [Nat.zero_add]
      exact h.tame i hi
    · rw [if_neg hi] at hx; cases hx) h.scan
  have ha : (if z.i0 = 0 then 0 else z.so.getD (z.i0 - 1) 0) = z.ahead z.i0 := by
    unfold Sess.ahead
    by_cases h0 : z.i0 = 0
    · rw [if_pos h0, if_pos h0]
    · rw [if_neg h0, if_neg h0, if_pos rfl]
  have hle : z.ahead z.i0 ≤ z.S := by
    rw [← ha]
    by_cases h0 : z.i0 = 0
    · rw [if_pos h0]; omega
    · rw [if_neg h0]
      have hlt : z.i0 - 1 < z.so.length := by omega
      rw [List.getD_eq_getElem?_getD, List.getElem?_eq_getElem hlt]
      exact Nat.le_of_lt (hser _ (List.getElem_mem hlt))
  have hn : z.olds.length = z.n := by unfold Sess.olds; rw [List.length_map, List.length_range]
  rw [ha, Nat.zero_add] at h3 h4
  exact ⟨by omega, h2, by have := h.S32; omega, hle, h3, h4⟩

theorem Inv.front {z : Sess} {V : Nat → List UInt8 → Prop} {all : List (List UInt8)} {synced : Nat} (h : Inv z V all synced) : (layAll all).take z.q0 = layAll z.all0 ∧ z.P0.take z.q0 = layAll z.all0 ∧ z.all0.length ≤ all.length := by
  refine ⟨?_, cut_take_eq z.P0, ?_⟩
  · have h1 : layAll all = layAll z.all0 ++ layAll (all.drop z.all0.length) := by
      conv => lhs; rw [← List.take_append_drop z.all0.length all, layAll_app, h.pre]
    rw [h1]
    exact List.take_left' rfl
  · have := congrArg List.length h.pre
    rw [List.length_take] at this
    omega

/-- behind a crash the log has what was synced, and perhaps some more -/
theorem Inv.reads {z : Sess} {V : Nat → List UInt8 → Prop} {all : List (List UInt8)} {synced : Nat} (h : Inv z V all synced) (x : Nat → List UInt8) (hx : ∀ j, j < z.n → V j (x j)) :
    ∃ Q so' k, scanR z.gen 0 0 ((List.range z.n).map x) = (none, Q, so') ∧ cutL Q = all.take k ∧ synced ≤ k ∧ k ≤ all.length := by
  obtain ⟨g1, g2, g3, g4, g5, g6⟩ := h.ok.split
  obtain ⟨f1, f2, f3⟩ := h.front
  have i1 := z.i0_le
  have q1 := z.q0_le
  have hS := h.ok.S32
  have hall : cutL (layAll all) = all := cutL_lay' all h.big
  have hfront : ((List.range z.n).map x).take z.i0 = z.olds.take z.i0 := map_range_take x z.old z.n z.i0 fun j hj hn => h.ha j hj _ (hx j hn)
  have hsc := g6 _ hfront
  -- the first pages are the stream's
  have hP : z.P0.take (z.i0 * 487) = (layAll all).take (z.i0 * 487) := by
    have e1 : (z.P0.take z.q0).take (z.i0 * 487) = z.P0.take (z.i0 * 487) := by rw [List.take_take, Nat.min_eq_left i1.1]
    have e2 : ((layAll all).take z.q0).take (z.i0 * 487) = (layAll all).take (z.i0 * 487) := by rw [List.take_take, Nat.min_eq_left i1.1]
    rw [← e1, ← e2, f1, f2]
  have hq0 : z.q0 ≤ (layAll all).length := by
    have := congrArg List.length f1
    rw [List.length_take] at this
    have e : (layAll z.all0).length = z.q0 := rfl
    omega
  -- what a beginning of the stream is cut into
  have fin : ∀ M, z.q0 ≤ M → (synced ≤ z.all0.length ∨ (layAll (all.take synced)).length ≤ M) → ∃ k, cutL ((layAll all).take M) = all.take k ∧ synced ≤ k ∧ k ≤ all.length := by
    intro M hM hF
    have hk : ∃ k, synced ≤ k ∧ (layAll ((cutL (layAll all)).take k)).length ≤ M := by
      rcases hF with hF | hF
      · exact ⟨z.all0.length, hF, by rw [hall, h.pre]; exact hM⟩
      · exact ⟨synced, Nat.le_refl _, by rw [hall]; exact hF⟩
    obtain ⟨k, k1, k2⟩ := hk
    obtain ⟨j, j1, j2⟩ := cut_covers (layAll all) M k k2
    rw [hall] at j2
    by_cases hj : j ≤ all.length
    · exact ⟨j, j2, by omega, hj⟩
    · exact ⟨all.length, by rw [j2, List.take_length, List.take_of_length_le (by omega)], h.hs, Nat.le_refl _⟩
  have hx' : ∀ j, z.i0 ≤ j → j < z.n → x j = z.old j ∨ NewPg z (layAll all) 0 j (x j) := fun j h1 h2 => h.hb j h1 h2 _ (hx j h2)
  by_cases hnew : z.i0 < z.n ∧ NewPg z (layAll all) 0 z.i0 (x z.i0)
  · obtain ⟨hin, c, hp, hc, hq, -⟩ := hnew
    have hq' := hq rfl
    have hdr : ((List.range z.n).map x).drop z.i0 = x z.i0 :: ((List.range z.n).map x).drop (z.i0 + 1) := by
      have hl : z.i0 < ((List.range z.n).map x).length := by rw [List.length_map, List.length_range]; exact hin
      rw [List.drop_eq_getElem_cons hl]
      simp
    rw [hdr, scan_pg hp _ g3, if_neg (by simp)] at hsc
    by_cases hl : c.length < 487
    · rw [if_pos hl] at hsc
      have hQ : z.P0.take (z.i0 * 487) ++ c = (layAll all).take (z.i0 * 487 + c.length) := by rw [hP, List.take_add, ← hc]
      simp only at hsc
      rw [hQ] at hsc
      have hF : synced ≤ z.all0.length ∨ (layAll (all.take synced)).length ≤ z.i0 * 487 + c.length := by
        rcases h.hd with hd | hd
        · exact .inl hd
        · right
          by_cases ht : z.i0 * 487 < (layAll (all.take synced)).length
          · obtain ⟨c', hp', -, -, h4⟩ := hd z.i0 (Nat.le_refl _) hin ht _ (hx _ hin)
            have hcc : c' = c := by
              have := hp'.1.symm.trans hp.1
              simp only [Prod.mk.injEq, Pg.mk.injEq, true_and] at this
              exact List.append_cancel_left this
            rw [hcc] at h4
            have := h4 ht
            omega
          · omega
      obtain ⟨k, k1, k2, k3⟩ := fin _ hq' hF
      exact ⟨_, _, k, hsc, k1, k2, k3⟩
    · rw [if_neg hl] at hsc
      have hl7 : c.length = 487 := by have := hp.2.2.2; omega
      obtain ⟨t, ht⟩ : ∃ t, t = if synced ≤ z.all0.length then 0 else (layAll (all.take synced)).length := ⟨_, rfl⟩
      have htl : t ≤ (layAll all).length := by
        rw [ht]
        split
        · omega
        · exact layAll_take_le _ _
      have hroom := h.room
      have hah : ∀ i, z.ahead (z.i0 + 1 + i) = z.S := fun i => by
        unfold Sess.ahead
        rw [if_neg (by omega), if_neg (by omega)]
      obtain ⟨m, m1, m2, m3⟩ := scan_chain z.gen z.S hS (layAll all) t (((List.range z.n).map x).drop (z.i0 + 1)) (z.i0 + 1) (fun i y hy => by
          rw [map_range_drop_get] at hy
          by_cases hi : z.i0 + 1 + i < z.n
          · rw [if_pos hi] at hy
            cases hy
            rcases hx' _ (by omega) hi with e | ⟨c', hp', hc', -, -⟩
            · rw [e]; exact .inl (h.ok.tame _ hi)
            · rw [hah] at hp'
              exact .inr ⟨c', hp', hc'⟩
          · rw [if_neg hi] at hy; cases hy) (fun i y hy hlt => by
          rw [map_range_drop_get] at hy
          by_cases hi : z.i0 + 1 + i < z.n
          · rw [if_pos hi] at hy
            cases hy
            by_cases hsy : synced ≤ z.all0.length
            · rw [if_pos hsy] at ht; omega
            · rw [if_neg hsy] at ht
              rcases h.hd with hd | hd
              · exact absurd hd hsy
              · obtain ⟨c', hp', hc', -, h4⟩ := hd _ (by omega) hi (by rw [← ht]; exact hlt) _ (hx _ hi)
                rw [hah] at hp'
                rw [← ht] at h4
                exact ⟨c', hp', hc', h4 hlt⟩
          · rw [if_neg hi] at hy; cases hy) (by
          rw [List.length_drop, List.length_map, List.length_range]
          have : z.i0 + 1 + (z.n - (z.i0 + 1)) = z.n := by omega
          rw [this]
          omega)
      obtain ⟨r1, r2, r3, hr⟩ : ∃ a b c, scanR z.gen (z.i0 + 1) z.S (((List.range z.n).map x).drop (z.i0 + 1)) = (a, b, c) := ⟨_, _, _, rfl⟩
      rw [hr] at hsc m1 m2
      simp only at hsc m1 m2
      have hQ : z.P0.take (z.i0 * 487) ++ (c ++ r2) = (layAll all).take (z.i0 * 487 + (487 + m)) := by
        have hc7 : c = ((layAll all).drop (z.i0 * 487)).take 487 := by rw [hl7] at hc; exact hc
        rw [hP, List.take_add (i := z.i0 * 487), List.take_add (i := 487), ← hc7, m2, List.drop_drop, show (z.i0 + 1) * 487 = z.i0 * 487 + 487 by omega]
      rw [hQ, m1] at hsc
      have hF : synced ≤ z.all0.length ∨ (layAll (all.take synced)).length ≤ z.i0 * 487 + (487 + m) := by
        by_cases hsy : synced ≤ z.all0.length
        · exact .inl hsy
        · rw [if_neg hsy] at ht
          right
          rw [← ht]
          omega
      obtain ⟨k, k1, k2, k3⟩ := fin _ (by omega) hF
      exact ⟨_, _, k, hsc, k1, k2, k3⟩
  · -- the first page is that of before
    have hold : z.i0 < z.n → x z.i0 = z.old z.i0 := fun hin => by
      rcases hx' z.i0 (Nat.le_refl _) hin with e | e
      · exact e
      · exact absurd ⟨hin, e⟩ hnew
    have hsy : synced ≤ z.all0.length := by
      rcases h.hd with hd | hd
      · exact hd
      · by_cases hsy : synced ≤ z.all0.length
        · exact hsy
        · have hlt := layAll_take_lt all z.all0.length synced (by omega) h.hs
          rw [h.pre] at hlt
          have hlt' : z.q0 < (layAll (all.take synced)).length := hlt
          have hle := layAll_take_le all synced
          have hroom := h.room
          have hin : z.i0 < z.n := by omega
          obtain ⟨c, h1, h2, h3, _⟩ := hd z.i0 (Nat.le_refl _) hin (by omega) _ (hx _ hin)
          exact absurd ⟨hin, c, h1, h2, h3, fun h => absurd h (Nat.not_lt_zero _)⟩ hnew
    obtain ⟨m, m1, m2, m3⟩ := scan_mix1 z.gen z.S hS (z.olds.drop z.i0) (((List.range z.n).map x).drop z.i0) z.i0 (z.ahead z.i0) (z.P0.drop (z.i0 * 487)) (z.so.drop z.i0)
      (by unfold Sess.olds; rw [List.length_drop, List.length_drop, List.length_map, List.length_map]) g3 (fun i y hy => by
        unfold Sess.olds at hy
        rw [map_range_drop_get] at hy
        by_cases hi : z.i0 + i < z.n
        · rw [if_pos hi] at hy
          cases hy
          exact h.ok.tame _ hi
        · rw [if_neg hi] at hy; cases hy) (fun i y y' hi0 hy hy' => by
        unfold Sess.olds at hy
        rw [map_range_drop_get] at hy hy'
        by_cases hi : z.i0 + i < z.n
        · rw [if_pos hi] at hy hy'
          cases hy
          cases hy'
          rcases hx' _ (by omega) hi with e | ⟨c', hp', -, -, -⟩
          · exact .inl e
          · have : z.ahead (z.i0 + i) = z.S := by
              unfold Sess.ahead
              rw [if_neg (by omega), if_neg (by omega)]
            rw [this] at hp'
            exact .inr ⟨c', hp'⟩
        · rw [if_neg hi] at hy; cases hy) (by
        unfold Sess.olds
        rw [map_range_drop_get, map_range_drop_get, Nat.add_zero]
        by_cases hin : z.i0 < z.n
        · rw [if_pos hin, if_pos hin, hold hin]
        · rw [if_neg hin, if_neg hin]) g5
    obtain ⟨r1, r2, r3, hr⟩ : ∃ a b c, scanR z.gen z.i0 (z.ahead z.i0) (((List.range z.n).map x).drop z.i0) = (a, b, c) := ⟨_, _, _, rfl⟩
    rw [hr] at hsc m1 m2
    simp only at hsc m1 m2
    have hQ : z.P0.take (z.i0 * 487) ++ r2 = z.P0.take (z.i0 * 487 + m) := by rw [m2, List.take_add]
    rw [hQ, m1] at hsc
    have hM : z.q0 ≤ z.i0 * 487 + m := by
      rw [List.length_drop] at m3
      omega
    refine ⟨_, _, z.all0.length, hsc, ?_, hsy, f3⟩
    rw [h.pre]
    exact cut_whole z.P0 _ hM
end Go.Proofs.YtacfkhnajdneeaaDoor
/- Plain: a log is opened, goes on, and survives. -/
namespace Go.Proofs.YtacfkhnajdneeaaDoor
set_option maxRecDepth 20000

theorem scan_len (gen : Nat) : ∀ (xs : List (List UInt8)) (j a : Nat), (scanR gen j a xs).2.1.length ≤ 487 * xs.length := by
  intro xs
  induction xs with
  | nil => intro j a; rw [scanR]; simp
  | cons b rest ih =>
    intro j a
    have hroom := parse_room b
    rw [scanR, List.length_cons]
    split
    · simp
    · split
      · simp
      · split
        · simp only [List.length_drop]; omega
        · simp only [List.length_append, List.length_drop]
          have := ih (j + 1) (parseOf b).2.serial
          omega

theorem Inv.sub {z : Sess} {V V' : Nat → List UInt8 → Prop} {all : List (List UInt8)} {synced : Nat} (h : Inv z V all synced) (hV : ∀ j x, j < z.n → V' j x → V j x) : Inv z V' all synced :=
  ⟨h.ok, h.big, h.pre, h.room, fun j hj x hx => h.ha j hj x (hV j x (by have := h.ok.split.1; omega) hx), fun j h1 h2 x hx => h.hb j h1 h2 x (hV j x h2 hx), h.hs, by
    rcases h.hd with hd | hd
    · exact .inl hd
    · exact .inr fun j h1 h2 h3 x hx => hd j h1 h2 h3 x (hV j x h2 hx)⟩

theorem Inv.tame {z : Sess} {V : Nat → List UInt8 → Prop} {all : List (List UInt8)} {synced : Nat} (h : Inv z V all synced) (j : Nat) (hj : j < z.n) (x : List UInt8) (hx : V j x) :
    (parseOf x).1 = 3 ∨ ∃ s a c, IsPg z.gen x j s a c ∧ a ≤ s ∧ s ≤ z.S := by
  have old : ∀ y, y = z.old j → (parseOf y).1 = 3 ∨ ∃ s a c, IsPg z.gen y j s a c ∧ a ≤ s ∧ s ≤ z.S := fun y hy => by
    rw [hy]
    rcases h.ok.tame j hj with h3 | ⟨s, a, c, h1, h2, h3⟩
    · exact .inl h3
    · exact .inr ⟨s, a, c, h1, h2, by omega⟩
  by_cases hi : j < z.i0
  · exact old x (h.ha j hi x hx)
  · rcases h.hb j (by omega) hj x hx with e | ⟨c, hp, -, -, -⟩
    · exact old x e
    · refine .inr ⟨_, _, _, hp, ?_, Nat.le_refl _⟩
      have g4 := h.ok.split.2.2.2.1
      by_cases h0 : j = z.i0
      · rw [h0]; exact g4
      · unfold Sess.ahead
        split
        · omega
        · exact Nat.le_refl _

theorem Inv.start (z : Sess) (ok : z.Ok) : Inv z (fun j x => x = z.old j) z.all0 z.all0.length := by
  obtain ⟨t, h1, h2, h3⟩ := cut_open z.P0
  have hl := scan_len z.gen z.olds 0 0
  rw [ok.scan] at hl
  have hn : z.olds.length = z.n := by unfold Sess.olds; rw [List.length_map, List.length_range]
  have hq := z.q0_le
  simp only [hn] at hl
  exact ⟨ok, h3, by rw [List.take_length], by show z.q0 ≤ _; omega, fun j _ x hx => hx, fun j _ _ x hx => .inl hx, Nat.le_refl _, .inl (Nat.le_refl _)⟩

theorem take_more {st e : List UInt8} {k : Nat} {c : List UInt8} (h : c = (st.drop k).take c.length) : c = ((st ++ e).drop k).take c.length := by
  have hl := congrArg List.length h
  rw [List.length_take, List.length_drop] at hl
  by_cases h0 : c.length = 0
  · have : c = [] := List.eq_nil_of_length_eq_zero h0
    rw [this]
    rfl
  · rw [List.drop_append_of_le_length (by omega), List.take_append_of_le_length (by rw [List.length_drop]; omega)]
    exact h

def chunk (st : List UInt8) (j : Nat) : List UInt8 := (st.drop (j * 487)).take 487
theorem chunk_len (st : List UInt8) (j : Nat) : (chunk st j).length = min 487 (st.length - j * 487) := by
  unfold chunk
  rw [List.length_take, List.length_drop]
theorem chunk_take (st : List UInt8) (j : Nat) : chunk st j = (st.drop (j * 487)).take (chunk st j).length := by
  rw [chunk_len]
  unfold chunk
  by_cases h : 487 ≤ st.length - j * 487
  · rw [Nat.min_eq_left h]
  · rw [Nat.min_eq_right (by omega), List.take_of_length_le (by rw [List.length_drop]; omega), List.take_of_length_le (by rw [List.length_drop]; omega)]

/-- a page that a record turns -/
def TurnPg (z : Sess) (st st' : List UInt8) (j : Nat) (y : List UInt8) : Prop := st.length / 487 ≤ j ∧ j * 487 < st'.length ∧ IsPg z.gen y j z.S (z.ahead j) (chunk st' j)

theorem Inv.append {z : Sess} {V : Nat → List UInt8 → Prop} {all : List (List UInt8)} {synced : Nat} (h : Inv z V all synced) (x : List UInt8) (hx : x.length ≤ 65536) (hroom : (layAll (all ++ [x])).length ≤ 487 * z.n)
    (V' : Nat → List UInt8 → Prop) (hV : ∀ j y, j < z.n → V' j y → V j y ∨ TurnPg z (layAll all) (layAll (all ++ [x])) j y) : Inv z V' (all ++ [x]) synced := by
  obtain ⟨f1, f2, f3⟩ := h.front
  have hs := h.hs
  have i1 := z.i0_le
  have hst : layAll (all ++ [x]) = layAll all ++ layOne x := by rw [layAll_app, layAll_one]
  have hq0 : z.q0 ≤ (layAll all).length := by
    have := congrArg List.length f1
    rw [List.length_take] at this
    have e : (layAll z.all0).length = z.q0 := rfl
    omega
  have hlen : (layAll (all ++ [x])).length = (layAll all).length + (layOne x).length := by rw [hst, List.length_append]
  have htk : (all ++ [x]).take synced = all.take synced := List.take_append_of_le_length hs
  have more : ∀ t j y, NewPg z (layAll all) t j y → NewPg z (layAll (all ++ [x])) t j y := fun t j y hn => by
    obtain ⟨c, h1, h2, h3, h4⟩ := hn
    exact ⟨c, h1, by rw [hst]; exact take_more h2, h3, h4⟩
  have turn : ∀ t j y, t ≤ (layAll (all ++ [x])).length → TurnPg z (layAll all) (layAll (all ++ [x])) j y → NewPg z (layAll (all ++ [x])) t j y := fun t j y ht hn => by
    obtain ⟨h1, h2, h3⟩ := hn
    have hc := chunk_len (layAll (all ++ [x])) j
    refine ⟨_, h3, chunk_take _ _, fun e => ?_, fun _ => ?_⟩
    · rw [hc]
      have : j * 487 = z.i0 * 487 := by rw [e]
      omega
    · rw [hc]
      omega
  refine ⟨h.ok, fun y hy => ?_, ?_, hroom, fun j hj y hy => ?_, fun j h1 h2 y hy => ?_, by rw [List.length_append]; omega, ?_⟩
  · rcases List.mem_append.1 hy with hy | hy
    · exact h.big y hy
    · simp at hy; rw [hy]; exact hx
  · rw [List.take_append_of_le_length f3]; exact h.pre
  · rcases hV j y (by have := h.ok.split.1; omega) hy with e | ⟨e, -, -⟩
    · exact h.ha j hj y e
    · exfalso; omega
  · rcases hV j y h2 hy with e | e
    · rcases h.hb j h1 h2 y e with e | e
      · exact .inl e
      · exact .inr (more _ _ _ e)
    · exact .inr (turn _ _ _ (Nat.zero_le _) e)
  · rcases h.hd with hd | hd
    · exact .inl hd
    · rw [htk]
      refine .inr fun j h1 h2 h3 y hy => ?_
      rcases hV j y h2 hy with e | e
      · exact more _ _ _ (hd j h1 h2 h3 y e)
      · exact turn _ _ _ (by have := layAll_take_le all synced; omega) e

theorem Inv.now {z : Sess} {V : Nat → List UInt8 → Prop} {all : List (List UInt8)} (h : Inv z V all all.length) (x : List UInt8) (hx : x.length ≤ 65536) (hroom : (layAll (all ++ [x])).length ≤ 487 * z.n)
    (V' : Nat → List UInt8 → Prop) (hV : ∀ j y, j < z.n → V' j y → (V j y ∧ ¬ ((layAll all).length / 487 ≤ j ∧ j * 487 < (layAll (all ++ [x])).length)) ∨ TurnPg z (layAll all) (layAll (all ++ [x])) j y) : Inv z V' (all ++ [x]) (all.length + 1) := by
  have h2 := h.append x hx hroom V' fun j y hj hy => (hV j y hj hy).imp And.left id
  refine ⟨h2.ok, h2.big, h2.pre, h2.room, h2.ha, h2.hb, by rw [List.length_append]; exact Nat.le_refl _, .inr fun j j1 j2 j3 y hy => ?_⟩
  rw [List.take_of_length_le (by rw [List.length_append]; exact Nat.le_refl _)] at j3 ⊢
  have hst : layAll (all ++ [x]) = layAll all ++ layOne x := by rw [layAll_app, layAll_one]
  obtain ⟨f1, f2, f3⟩ := h.front
  rcases hV j y j2 hy with ⟨e, hno⟩ | ⟨e1, e2, e3⟩
  · have hfull : (j + 1) * 487 ≤ (layAll all).length := by
      have : ¬ (layAll all).length / 487 ≤ j := fun hc => hno ⟨hc, j3⟩
      omega
    rcases h.hd with hd | hd
    · exfalso
      have he : all = z.all0 := by rw [← h.pre, List.take_of_length_le hd]
      have i1 := z.i0_le
      have e : (layAll z.all0).length = z.q0 := rfl
      rw [he] at hfull
      omega
    · rw [List.take_length] at hd
      obtain ⟨c, c1, c2, c3, c4⟩ := hd j j1 j2 (by omega) y e
      have hc : c.length = 487 := by
        have := c4 (by omega)
        have := c1.2.2.2
        omega
      exact ⟨c, c1, by rw [hst]; exact take_more c2, c3, fun _ => .inl hc⟩
  · have hc := chunk_len (layAll (all ++ [x])) j
    have i1 := z.i0_le
    refine ⟨_, e3, chunk_take _ _, fun e => ?_, fun _ => by rw [hc]; omega⟩
    rw [hc]
    have hq0 : z.q0 ≤ (layAll all).length := by
      have := congrArg List.length f1
      rw [List.length_take] at this
      have e : (layAll z.all0).length = z.q0 := rfl
      omega
    have hlen : (layAll (all ++ [x])).length = (layAll all).length + (layOne x).length := by rw [hst, List.length_append]
    have : j * 487 = z.i0 * 487 := by rw [e]
    omega

/-- a page's bytes -/
def pgBytes (gen S j a : Nat) (c : List UInt8) : List UInt8 := seal8 (Pg.raw ⟨gen, S, j, 1, be4 a ++ c⟩)
theorem pgBytes_is {gen S j a : Nat} {c : List UInt8} (hg : gen < 4294967296) (hS : S < 4294967296) (hj : j < 4294967296) (ha : a < 4294967296) (hc : c.length ≤ 487) : IsPg gen (pgBytes gen S j a c) j S a c :=
  ⟨parseOf_seal ⟨gen, S, j, 1, be4 a ++ c⟩ ⟨hg, hS, hj, show (1 : Nat) < 256 by decide⟩ (show (1 : Nat) ≠ 0 by decide) (by show (be4 a ++ c).length ≤ 491; rw [List.length_append, be4_len]; omega), ha, hS, hc⟩
theorem pgBytes_len {gen S j a : Nat} {c : List UInt8} (hc : c.length ≤ 487) : (pgBytes gen S j a c).length = 512 := by
  unfold pgBytes
  rw [seal_length, raw_length _ (by show (be4 a ++ c).length ≤ 491; rw [List.length_append, be4_len]; omega)]
end Go.Proofs.YtacfkhnajdneeaaDoor
