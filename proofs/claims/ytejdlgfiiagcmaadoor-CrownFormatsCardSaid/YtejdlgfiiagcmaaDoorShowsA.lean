/- SumShows: what has rotted is shown: some of 32 bits in a row. -/
import Derived.Test.YtejdlgfiiagcmaaDoorRefOpen
import Derived.Test.YtejdlgfiiagcmaaDoorRefOpen
import Derived.Test.YtejdlgfiiagcmaaDoorBurst
import Derived.RegionTactic
import Derived.BigRegion
namespace Go.Proofs.YtejdlgfiiagcmaaDoor
open Go.RowKit

def turn8 (l : List UInt8) (j : Nat) : List UInt8 := l.set (j / 8) (l.getD (j / 8) 0 ^^^ UInt8.ofNat (2 ^ (j % 8)))
def turns8 (s mask : Nat) : Nat → List UInt8 → List UInt8
  | 0, l => l
  | k + 1, l => if s + k < 8 * l.length ∧ mask / 2 ^ k % 2 = 1 then turn8 (turns8 s mask k l) (s + k) else turns8 s mask k l

theorem length_turns8 (s mask k : Nat) (l : List UInt8) : (turns8 s mask k l).length = l.length := by
  induction k with
  | zero => rfl
  | succ k ih => simp only [turns8]; split <;> simp [turn8, ih]

theorem nats_turn8 (l : List UInt8) (j : Nat) : nats (turn8 l j) = Crc.turn (nats l) j := by
  unfold nats turn8 Crc.turn
  have h2 : (UInt8.ofNat (2 ^ (j % 8))).toNat = 2 ^ (j % 8) := UInt8.toNat_ofNat_of_lt' (Crc.pow_lt8 (by omega))
  rw [List.map_set, UInt8.toNat_xor, h2]
  congr 2
  rw [List.getD_eq_getElem?_getD, List.getD_eq_getElem?_getD, List.getElem?_map]
  cases l[j / 8]? <;> rfl

theorem nats_turns8 (s mask k : Nat) (l : List UInt8) : nats (turns8 s mask k l) = Crc.turns s mask k (nats l) := by
  induction k with
  | zero => rfl
  | succ k ih =>
    simp only [turns8, Crc.turns]
    rw [show (nats l).length = l.length by simp [nats]]
    split
    · rw [nats_turn8, ih]
    · exact ih

theorem nats_lt (l : List UInt8) : ∀ b ∈ nats l, b < 256 := by
  intro b hb
  simp [nats] at hb
  obtain ⟨x, _, rfl⟩ := hb
  exact x.toNat_lt

theorem nats_inj {l m : List UInt8} (h : nats l = nats m) : l = m := by
  unfold nats at h
  exact (List.map_inj_right (fun x y hxy => UInt8.toNat_inj.1 hxy)).1 h

theorem ofNat_lt (n : Nat) (h : n < 256) : (UInt8.ofNat n).toNat = n := UInt8.toNat_ofNat_of_lt' (by simpa using h)

theorem nats_lows (n : Nat) : nats (lows n) = [n % 256, n / 256 % 256, n / 65536 % 256, n / 16777216 % 256] := by
  unfold nats lows
  simp only [List.map_cons, List.map_nil]
  rw [ofNat_lt _ (by omega), ofNat_lt _ (by omega), ofNat_lt _ (by omega), ofNat_lt _ (by omega)]

/-- whatever is sealed leaves one rest -/
theorem rest8 (l : List UInt8) : Crc.run Crc.ones (nats (l ++ lows (crc8 l))) = Crc.bits 32 Crc.ones := by
  rcases Crc.rest (nats l) with h | h
  · have hc := crc8_lt l
    have e : nats (l ++ lows (crc8 l)) = nats l ++ nats (lows (crc8 l)) := by simp [nats]
    rw [e, nats_lows]
    exact h
  · exact absurd (nats_lt l) h

/-- THE PLAIN LAW: turned within 32 bits, and sealed still: then it is as it was. -/
theorem shows_plain (P : List UInt8) (s mask : Nat) (q : List UInt8) (hq : q = turns8 s mask 32 (P ++ lows (crc8 P))) (h : q = q.take P.length ++ lows (crc8 (q.take P.length))) : q = P ++ lows (crc8 P) := by
  have h1 := rest8 P
  have h2 := rest8 (q.take P.length)
  rw [← h] at h2
  refine (nats_inj (Crc.burst (l := nats (P ++ lows (crc8 P))) (m := nats q) s ?_ (nats_lt _) (nats_lt _) ?_ (h1.trans h2.symm))).symm
  · rw [hq]; simp only [nats, List.length_map]; rw [length_turns8]
  · intro j hj
    rw [hq, nats_turns8] at hj
    exact Crc.bitAt_turns s mask 32 _ j hj

theorem turn8_byte (x : UInt8) (t : Nat) (ht : t < 8) : B8 (x ^^^ UInt8.ofNat (2 ^ t)) = .int .u8 (((x.toNat ^^^ 2 ^ t : Nat)) : Int) := by
  unfold B8
  rw [UInt8.toNat_xor, UInt8.toNat_ofNat_of_lt' (Crc.pow_lt8 ht)]

end Go.Proofs.YtejdlgfiiagcmaaDoor
