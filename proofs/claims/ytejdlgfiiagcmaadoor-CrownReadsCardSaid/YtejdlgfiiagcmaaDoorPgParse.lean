/- What Parse answers, plainly, of what is opened. -/
import Derived.Test.YtejdlgfiiagcmaaDoorPg
namespace Go.Proofs.YtejdlgfiiagcmaaDoor

theorem seal_take (q : List UInt8) (hq : q.length = 508) : (seal8 q).take 508 = q := by
  unfold seal8
  rw [List.take_append_of_le_length (by omega), List.take_of_length_le (by omega)]

/-- the parts of what is opened -/
theorem parse_parts (b : List UInt8) (hs : b = seal8 (b.take 508)) (m0 m1 c0 c1 c2 c3 d0 d1 d2 d3 e0 e1 e2 e3 kd y0 y1 : UInt8) (t : List UInt8)
    (hq : b.take 508 = m0 :: m1 :: c0 :: c1 :: c2 :: c3 :: d0 :: d1 :: d2 :: d3 :: e0 :: e1 :: e2 :: e3 :: kd :: y0 :: y1 :: t) :
    lenOf b = y0.toNat * 256 + y1.toNat ∧ b.getD 14 0 = kd ∧ b.take 2 = [m0, m1] ∧
    pgOf (b.take 508) = ⟨val [c0, c1, c2, c3], val [d0, d1, d2, d3], val [e0, e1, e2, e3], kd.toNat, t.take (y0.toNat * 256 + y1.toNat)⟩ := by
  have hb : b = m0 :: m1 :: c0 :: c1 :: c2 :: c3 :: d0 :: d1 :: d2 :: d3 :: e0 :: e1 :: e2 :: e3 :: kd :: y0 :: y1 :: (t ++ lows (crc8 (b.take 508))) := by
    conv => lhs; rw [hs]
    unfold seal8
    conv => lhs; arg 1; rw [hq]
    rfl
  refine ⟨?_, ?_, ?_, ?_⟩
  · rw [hb]; exact val2 y0 y1
  · rw [hb]; rfl
  · rw [hb]; rfl
  · rw [hq, ← val2 y0 y1]; rfl

theorem parseOf_form (b : List UInt8) (hl : b.length = 512) (hz : ¬ noughts b) (hs : b = seal8 (b.take 508)) (h : b.getD 14 0 = 0 ∨ 491 < lenOf b ∨ ¬ (b.take 2 = mark ∧ noughts ((b.take 508).drop (17 + lenOf b)))) : parseOf b = (2, Pg.zero) := by
  unfold parseOf
  rw [if_neg (by omega), if_neg hz, if_neg (fun hn => hn hs), if_pos h]

theorem parseOf_ok (b : List UInt8) (hl : b.length = 512) (hz : ¬ noughts b) (hs : b = seal8 (b.take 508)) (h : ¬ (b.getD 14 0 = 0 ∨ 491 < lenOf b ∨ ¬ (b.take 2 = mark ∧ noughts ((b.take 508).drop (17 + lenOf b))))) : parseOf b = (0, pgOf (b.take 508)) := by
  unfold parseOf
  rw [if_neg (by omega), if_neg hz, if_neg (fun hn => hn hs), if_neg h]

theorem parseOf_arg (b : List UInt8) (hl : b.length ≠ 512) : parseOf b = (1, Pg.zero) := by
  unfold parseOf; rw [if_pos hl]
theorem parseOf_none (b : List UInt8) (hl : b.length = 512) (hz : noughts b) : parseOf b = (3, Pg.zero) := by
  unfold parseOf; rw [if_neg (by omega), if_pos hz]
theorem parseOf_corrupt (b : List UInt8) (hl : b.length = 512) (hz : ¬ noughts b) (hs : b ≠ seal8 (b.take 508)) : parseOf b = (7, Pg.zero) := by
  unfold parseOf; rw [if_neg (by omega), if_neg hz, if_pos hs]

/-- a page's sealed bytes are read as that page -/
theorem parseOf_seal (p : Pg) (ok : p.Ok) (hk : p.kind ≠ 0) (hd : p.data.length ≤ 491) : parseOf (seal8 p.raw) = (0, p) := by
  have hrl := raw_length p hd
  have ht := seal_take p.raw hrl
  have hlen : (seal8 p.raw).length = 512 := by rw [seal_length, hrl]
  have hget : (seal8 p.raw).getD 14 0 = UInt8.ofNat p.kind := rfl
  have hkn : UInt8.ofNat p.kind ≠ 0 := fun h => hk (by
    have := congrArg UInt8.toNat h
    rw [toNat_ofNat8 _ ok.kind] at this
    simpa using this)
  have hnz : ¬ noughts (seal8 p.raw) := fun h => by
    have h0 : (104 : UInt8) ∈ seal8 p.raw := by
      show (104 : UInt8) ∈ 104 :: _
      exact List.mem_cons_self
    have := h 104 h0
    simp at this
  have hlo : lenOf (seal8 p.raw) = p.data.length := val_be2 _ (by omega)
  have hpr : noughts (p.raw.drop (17 + p.data.length)) := by
    unfold Pg.raw
    rw [List.drop_append_of_le_length (by rw [List.length_append, head_length]; omega), List.drop_of_length_le (by rw [List.length_append, head_length]; omega), List.nil_append]
    intro x hx
    exact List.eq_of_mem_replicate hx
  rw [parseOf_ok _ hlen hnz (by rw [ht]), ht, pgOf_raw p ok hd]
  rw [hget, hlo, ht]
  rintro (h | h | h)
  · exact hkn h
  · omega
  · exact h ⟨rfl, hpr⟩
end Go.Proofs.YtejdlgfiiagcmaaDoor
