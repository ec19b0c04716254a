/- Pages, plainly. -/
import Derived.Test.YtejdlgfiiagcmaaDoorPreA
namespace Go.Proofs.YtejdlgfiiagcmaaDoor

structure Pg where
  gen : Nat
  serial : Nat
  number : Nat
  kind : Nat
  data : List UInt8

structure Pg.Ok (p : Pg) : Prop where
  gen : p.gen < 4294967296
  serial : p.serial < 4294967296
  number : p.number < 4294967296
  kind : p.kind < 256

def be4 (n : Nat) : List UInt8 := [UInt8.ofNat (n / 16777216 % 256), UInt8.ofNat (n / 65536 % 256), UInt8.ofNat (n / 256 % 256), UInt8.ofNat (n % 256)]
def be2 (n : Nat) : List UInt8 := [UInt8.ofNat (n / 256 % 256), UInt8.ofNat (n % 256)]
def mark : List UInt8 := [104, 103]
def Pg.head (p : Pg) : List UInt8 := mark ++ be4 p.gen ++ be4 p.serial ++ be4 p.number ++ [UInt8.ofNat p.kind] ++ be2 p.data.length
def Pg.raw (p : Pg) : List UInt8 := p.head ++ p.data ++ List.replicate (491 - p.data.length) 0
def seal8 (l : List UInt8) : List UInt8 := l ++ lows (crc8 l)
def val (l : List UInt8) : Nat := l.foldl (fun n b => 256 * n + b.toNat) 0
def lenOf (q : List UInt8) : Nat := val ((q.drop 15).take 2)
def pgOf (q : List UInt8) : Pg := ⟨val ((q.drop 2).take 4), val ((q.drop 6).take 4), val ((q.drop 10).take 4), (q.getD 14 0).toNat, (q.drop 17).take (lenOf q)⟩
def Pg.zero : Pg := ⟨0, 0, 0, 0, []⟩

theorem head_length (p : Pg) : p.head.length = 17 := rfl
theorem raw_length (p : Pg) (h : p.data.length ≤ 491) : p.raw.length = 508 := by
  unfold Pg.raw
  rw [List.length_append, List.length_append, head_length, List.length_replicate]; omega
theorem lows_length (n : Nat) : (lows n).length = 4 := rfl
theorem seal_length (l : List UInt8) : (seal8 l).length = l.length + 4 := by unfold seal8; rw [List.length_append, lows_length]

theorem ofNat_toNat8 (b : UInt8) : UInt8.ofNat b.toNat = b := by simp
theorem toNat_ofNat8 (n : Nat) (h : n < 256) : (UInt8.ofNat n).toNat = n := ofNat_lt n h

theorem val4 (a b c d : UInt8) : val [a, b, c, d] = a.toNat * 16777216 + b.toNat * 65536 + c.toNat * 256 + d.toNat := by
  show 256 * (256 * (256 * (256 * 0 + a.toNat) + b.toNat) + c.toNat) + d.toNat = _
  omega
theorem val2 (a b : UInt8) : val [a, b] = a.toNat * 256 + b.toNat := by
  show 256 * (256 * 0 + a.toNat) + b.toNat = _
  omega

theorem be4_val (a b c d : UInt8) : be4 (val [a, b, c, d]) = [a, b, c, d] := by
  have ha := a.toNat_lt
  have hb := b.toNat_lt
  have hc := c.toNat_lt
  have hd := d.toNat_lt
  rw [val4]
  unfold be4
  rw [show (a.toNat * 16777216 + b.toNat * 65536 + c.toNat * 256 + d.toNat) / 16777216 % 256 = a.toNat by omega,
    show (a.toNat * 16777216 + b.toNat * 65536 + c.toNat * 256 + d.toNat) / 65536 % 256 = b.toNat by omega,
    show (a.toNat * 16777216 + b.toNat * 65536 + c.toNat * 256 + d.toNat) / 256 % 256 = c.toNat by omega,
    show (a.toNat * 16777216 + b.toNat * 65536 + c.toNat * 256 + d.toNat) % 256 = d.toNat by omega]
  simp
theorem be2_val (a b : UInt8) : be2 (val [a, b]) = [a, b] := by
  have ha := a.toNat_lt
  have hb := b.toNat_lt
  rw [val2]
  unfold be2
  rw [show (a.toNat * 256 + b.toNat) / 256 % 256 = a.toNat by omega, show (a.toNat * 256 + b.toNat) % 256 = b.toNat by omega]
  simp
theorem val_be4 (n : Nat) (h : n < 4294967296) : val (be4 n) = n := by
  unfold be4
  rw [val4, toNat_ofNat8 _ (by omega), toNat_ofNat8 _ (by omega), toNat_ofNat8 _ (by omega), toNat_ofNat8 _ (by omega)]
  omega
theorem val_be2 (n : Nat) (h : n < 65536) : val (be2 n) = n := by
  unfold be2
  rw [val2, toNat_ofNat8 _ (by omega), toNat_ofNat8 _ (by omega)]
  omega

/-- a text of 508 bytes, its head laid open -/
theorem open17 (q : List UInt8) (h : 17 ≤ q.length) : ∃ a b c0 c1 c2 c3 d0 d1 d2 d3 e0 e1 e2 e3 k n0 n1 t, q = a :: b :: c0 :: c1 :: c2 :: c3 :: d0 :: d1 :: d2 :: d3 :: e0 :: e1 :: e2 :: e3 :: k :: n0 :: n1 :: t := by
  obtain ⟨a, t, rfl⟩ := List.exists_cons_of_length_pos (l := q) (by first | omega | (simp only [List.length_cons] at h; omega))
  obtain ⟨b, t, rfl⟩ := List.exists_cons_of_length_pos (l := t) (by first | omega | (simp only [List.length_cons] at h; omega))
  obtain ⟨c0, t, rfl⟩ := List.exists_cons_of_length_pos (l := t) (by first | omega | (simp only [List.length_cons] at h; omega))
  obtain ⟨c1, t, rfl⟩ := List.exists_cons_of_length_pos (l := t) (by first | omega | (simp only [List.length_cons] at h; omega))
  obtain ⟨c2, t, rfl⟩ := List.exists_cons_of_length_pos (l := t) (by first | omega | (simp only [List.length_cons] at h; omega))
  obtain ⟨c3, t, rfl⟩ := List.exists_cons_of_length_pos (l := t) (by first | omega | (simp only [List.length_cons] at h; omega))
  obtain ⟨d0, t, rfl⟩ := List.exists_cons_of_length_pos (l := t) (by first | omega | (simp only [List.length_cons] at h; omega))
  obtain ⟨d1, t, rfl⟩ := List.exists_cons_of_length_pos (l := t) (by first | omega | (simp only [List.length_cons] at h; omega))
  obtain ⟨d2, t, rfl⟩ := List.exists_cons_of_length_pos (l := t) (by first | omega | (simp only [List.length_cons] at h; omega))
  obtain ⟨d3, t, rfl⟩ := List.exists_cons_of_length_pos (l := t) (by first | omega | (simp only [List.length_cons] at h; omega))
  obtain ⟨e0, t, rfl⟩ := List.exists_cons_of_length_pos (l := t) (by first | omega | (simp only [List.length_cons] at h; omega))
  obtain ⟨e1, t, rfl⟩ := List.exists_cons_of_length_pos (l := t) (by first | omega | (simp only [List.length_cons] at h; omega))
  obtain ⟨e2, t, rfl⟩ := List.exists_cons_of_length_pos (l := t) (by first | omega | (simp only [List.length_cons] at h; omega))
  obtain ⟨e3, t, rfl⟩ := List.exists_cons_of_length_pos (l := t) (by first | omega | (simp only [List.length_cons] at h; omega))
  obtain ⟨k, t, rfl⟩ := List.exists_cons_of_length_pos (l := t) (by first | omega | (simp only [List.length_cons] at h; omega))
  obtain ⟨n0, t, rfl⟩ := List.exists_cons_of_length_pos (l := t) (by first | omega | (simp only [List.length_cons] at h; omega))
  obtain ⟨n1, t, rfl⟩ := List.exists_cons_of_length_pos (l := t) (by first | omega | (simp only [List.length_cons] at h; omega))
  exact ⟨a, b, c0, c1, c2, c3, d0, d1, d2, d3, e0, e1, e2, e3, k, n0, n1, t, rfl⟩

/-- a page's bytes tell its parts -/
theorem pgOf_raw (p : Pg) (ok : p.Ok) (hd : p.data.length ≤ 491) : pgOf p.raw = p := by
  obtain ⟨g, s, n, k, d⟩ := p
  obtain ⟨o1, o2, o3, o4⟩ := ok
  simp only at o1 o2 o3 o4 hd
  show (⟨val (be4 g), val (be4 s), val (be4 n), (UInt8.ofNat k).toNat, (d ++ List.replicate (491 - d.length) 0).take (val (be2 d.length))⟩ : Pg) = _
  rw [val_be4 _ o1, val_be4 _ o2, val_be4 _ o3, toNat_ofNat8 _ o4, val_be2 _ (by omega), List.take_left]

theorem lenOf_raw (p : Pg) (hd : p.data.length ≤ 491) : lenOf p.raw = p.data.length := by
  show val (be2 p.data.length) = _
  exact val_be2 _ (by omega)

abbrev noughts (l : List UInt8) : Prop := ∀ b ∈ l, b = 0

theorem noughts_eq {l : List UInt8} (h : noughts l) : l = List.replicate l.length 0 := List.eq_replicate_iff.2 ⟨rfl, h⟩

/-- what has the mark, and noughts behind the data, is its page's bytes, and nothing else is -/
theorem raw_pgOf (q : List UInt8) (hq : q.length = 508) (hn : lenOf q ≤ 491) : (pgOf q).raw = q ↔ (q.take 2 = mark ∧ noughts (q.drop (17 + lenOf q))) := by
  obtain ⟨a, b, c0, c1, c2, c3, d0, d1, d2, d3, e0, e1, e2, e3, k, n0, n1, t, rfl⟩ := open17 q (by omega)
  have ht : t.length = 491 := by simpa using hq
  have hl : lenOf (a :: b :: c0 :: c1 :: c2 :: c3 :: d0 :: d1 :: d2 :: d3 :: e0 :: e1 :: e2 :: e3 :: k :: n0 :: n1 :: t) = val [n0, n1] := rfl
  rw [hl] at hn ⊢
  have hdl : (t.take (val [n0, n1])).length = val [n0, n1] := by rw [List.length_take]; omega
  have hraw : (pgOf (a :: b :: c0 :: c1 :: c2 :: c3 :: d0 :: d1 :: d2 :: d3 :: e0 :: e1 :: e2 :: e3 :: k :: n0 :: n1 :: t)).raw =
      mark ++ be4 (val [c0, c1, c2, c3]) ++ be4 (val [d0, d1, d2, d3]) ++ be4 (val [e0, e1, e2, e3]) ++ [UInt8.ofNat k.toNat] ++ be2 (t.take (val [n0, n1])).length ++ t.take (val [n0, n1]) ++ List.replicate (491 - (t.take (val [n0, n1])).length) 0 := rfl
  rw [hraw, hdl, be4_val, be4_val, be4_val, be2_val, ofNat_toNat8]
  have hdr : (a :: b :: c0 :: c1 :: c2 :: c3 :: d0 :: d1 :: d2 :: d3 :: e0 :: e1 :: e2 :: e3 :: k :: n0 :: n1 :: t).drop (17 + val [n0, n1]) = t.drop (val [n0, n1]) := by
    rw [← List.drop_drop]; rfl
  rw [hdr]
  show 104 :: 103 :: c0 :: c1 :: c2 :: c3 :: d0 :: d1 :: d2 :: d3 :: e0 :: e1 :: e2 :: e3 :: k :: n0 :: n1 :: (t.take (val [n0, n1]) ++ List.replicate (491 - val [n0, n1]) 0) = _ ↔ [a, b] = [104, 103] ∧ _
  have key : t.take (val [n0, n1]) ++ List.replicate (491 - val [n0, n1]) 0 = t ↔ noughts (t.drop (val [n0, n1])) := by
    constructor
    · intro h x hx
      rw [← h, List.drop_left' hdl] at hx
      exact List.eq_of_mem_replicate hx
    · intro h
      have h1 := noughts_eq h
      rw [List.length_drop, ht] at h1
      rw [← h1, List.take_append_drop]
  constructor
  · intro h
    injection h with h1 h
    injection h with h2 h
    injection h with _ h
    injection h with _ h
    injection h with _ h
    injection h with _ h
    injection h with _ h
    injection h with _ h
    injection h with _ h
    injection h with _ h
    injection h with _ h
    injection h with _ h
    injection h with _ h
    injection h with _ h
    injection h with _ h
    injection h with _ h
    injection h with _ h
    exact ⟨by rw [← h1, ← h2], key.1 h⟩
  · rintro ⟨h, hz⟩
    injection h with h1 h
    injection h with h2 _
    rw [key.2 hz, h1, h2]

/-- what Parse answers -/
def parseOf (b : List UInt8) : Int × Pg :=
  if b.length ≠ 512 then (1, .zero)
  else if noughts b then (3, .zero)
  else if b ≠ seal8 (b.take 508) then (7, .zero)
  else if b.getD 14 0 = 0 ∨ 491 < lenOf b ∨ ¬ (b.take 2 = mark ∧ noughts ((b.take 508).drop (17 + lenOf b))) then (2, .zero)
  else (0, pgOf (b.take 508))
end Go.Proofs.YtejdlgfiiagcmaaDoor
