/- Plain: what Parse and Bytes tell of one another; a step that isn't wanted. -/
import Derived.Test.YtbdjjjnajkeceaaDoorRParse
namespace Go.Proofs.YtbdjjjnajkeceaaDoor
open Go.RowKit

theorem anyZ_oneSkip {P : Program} {ops : Array Oper} {Q : Exit → Act → World → Prop} {md : Region.Mode} {S : World → Prop} {i z : Nat} {oi : Oper} {fuel : Nat} {listed : Array Bool} {a : Act} {w : World} (hcl : Closed md ops listed) (hr : Region.ready md ops listed = [i]) (hi : ops[i]? = some oi) (hg : Region.wanted oi (yielded ops a.tmps) = false)
    (hS : (listed.setIfInBounds i true).getD z true = false → S w) (h : Closed md ops (listed.setIfInBounds i true) → AnyZ P md ops Q S z fuel (listed.setIfInBounds i true) (a.put oi.dst undef) w) :
    AnyZ P md ops Q S z (fuel + 1) listed a w := by
  refine ⟨fun h0 => (by rw [hr] at h0; cases h0), fun j hj => ?_⟩
  rw [hr] at hj
  have hji : j = i := by simpa using hj
  subst hji
  unfold wpOp
  simp only [hi]
  rw [if_neg (by rw [hg]; decide)]
  exact ⟨hS, h (hcl.set (by rw [hr]; simp))⟩

/-- what Bytes tells -/
def Told (p : Pg) (k : Nat) (l : List UInt8) : Prop := (k = 0 ∧ p.kind ≠ 0 ∧ p.data.length ≤ 491 ∧ l = seal8 p.raw) ∨ (k = 1 ∧ p.kind = 0 ∧ l = []) ∨ (k = 4 ∧ p.kind ≠ 0 ∧ 491 < p.data.length ∧ l = [])

theorem pbytes_any (v : Value) (p : Pg) (w : World) (hv : PgAt w v p) (ok : p.Ok) :
    Calls Tryd.prog 10 #[v] w fun e w' => ∃ (v' : Value) (k : Nat) (l : List UInt8), e = .returned (.tuple #[v', .int .i64 k]) ∧ Told p k l ∧ Bytes w' v' l ∧ Below w.heap.size w w' := by
  by_cases hk : p.kind = 0
  · refine (pbytes_arg v p w hv hk).mono ?_
    rintro e w' ⟨rfl, hb⟩
    exact ⟨_, 1, [], rfl, .inr (.inl ⟨rfl, hk, rfl⟩), (Own8.nil 0 0 w').bytes, hb⟩
  · by_cases hd : p.data.length ≤ 491
    · refine (pbytes_ok v p w hv ok hk hd).mono ?_
      rintro e w' ⟨v', rfl, ho, hb⟩
      exact ⟨v', 0, _, rfl, .inl ⟨rfl, hk, hd, rfl⟩, ho.bytes, hb⟩
    · refine (pbytes_long v p w hv hk (by omega)).mono ?_
      rintro e w' ⟨rfl, hb⟩
      exact ⟨_, 4, [], rfl, .inr (.inr ⟨rfl, hk, by omega, rfl⟩), (Own8.nil 0 0 w').bytes, hb⟩

theorem val_take4 (l : List UInt8) : val (l.take 4) < 4294967296 := by
  have h1 := val_lt (l.take 4)
  have h2 : (l.take 4).length ≤ 4 := by rw [List.length_take]; omega
  have h3 : 256 ^ (l.take 4).length ≤ 256 ^ 4 := Nat.pow_le_pow_right (by decide) h2
  omega

theorem pgOf_ok (q : List UInt8) : (pgOf q).Ok := ⟨val_take4 _, val_take4 _, val_take4 _, (q.getD 14 0).toNat_lt⟩

/-- what is read is a page whose bytes it was read of -/
theorem parseOf_good (q : List UInt8) (h : (parseOf q).1 = 0) : q = seal8 (parseOf q).2.raw ∧ (parseOf q).2.Ok ∧ (parseOf q).2.data.length ≤ 491 := by
  by_cases hl : q.length = 512
  · by_cases hz : noughts q
    · rw [parseOf_none q hl hz] at h; exact absurd h (by decide)
    · by_cases hs : q = seal8 (q.take 508)
      · by_cases hg : q.getD 14 0 = 0 ∨ 491 < lenOf q ∨ ¬ (q.take 2 = mark ∧ noughts ((q.take 508).drop (17 + lenOf q)))
        · rw [parseOf_form q hl hz hs hg] at h; exact absurd h (by decide)
        · rw [parseOf_ok q hl hz hs hg]
          have hq : (q.take 508).length = 508 := by rw [List.length_take, hl]; rfl
          have hlo : lenOf (q.take 508) = lenOf q := by
            unfold lenOf
            congr 1
            rw [List.drop_take, List.take_take]
            rfl
          have h491 : ¬ 491 < lenOf q := fun hh => hg (.inr (.inl hh))
          have hm : q.take 2 = mark ∧ noughts ((q.take 508).drop (17 + lenOf q)) := Classical.byContradiction fun hh => hg (.inr (.inr hh))
          have h1 := raw_pgOf (q.take 508) hq (by rw [hlo]; omega)
          rw [hlo, List.take_take, show min 2 508 = 2 from rfl] at h1
          refine ⟨?_, pgOf_ok _, ?_⟩
          · show q = seal8 (pgOf (q.take 508)).raw
            rw [h1.2 hm]
            exact hs
          · show (((q.take 508).drop 17).take (lenOf (q.take 508))).length ≤ 491
            rw [List.length_take, hlo]
            omega
      · rw [parseOf_corrupt q hl hz hs] at h; exact absurd h (by decide)
  · rw [parseOf_arg q hl] at h; exact absurd h (by decide)

theorem noughts_rep (l : List UInt8) : decide (noughts l) = decide (l = List.replicate l.length 0) := by
  rw [Bool.eq_iff_iff, decide_eq_true_iff, decide_eq_true_iff]
  constructor
  · exact noughts_eq
  · intro h
    rw [h]
    exact noughts_zero _
end Go.Proofs.YtbdjjjnajkeceaaDoor
