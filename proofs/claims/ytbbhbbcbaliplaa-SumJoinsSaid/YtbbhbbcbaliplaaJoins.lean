/- SumJoins: parts may be cut anywhere, in however many; texts that differ in one byte have unlike sums. -/
import Derived.Test.YtbbhbbcbaliplaaShowsA
namespace Go.Proofs.Ytbbhbbcbaliplaa
open Go.RowKit

theorem rowR : RowTy Try.prog 34 22 1 24 := RowTy.mk' (z := .slice none 0 0) Try.underlying34 (by kernel_rfl) rfl (by omega)

/-- what SumJoins keeps of its rows: the first six, cut -/
def few6 (ls : List (List UInt8)) (k : Nat) : List (List UInt8) := ((ls.take k).take 6).map (·.take 60)

theorem few6_next (ls : List (List UInt8)) (k : Nat) (h : k < ls.length) : few6 ls (k + 1) = if k < 6 then few6 ls k ++ [ls[k].take 60] else few6 ls k := by
  unfold few6
  rw [List.take_take, List.take_take]
  by_cases h6 : k < 6
  · rw [if_pos h6, show min 6 (k + 1) = k + 1 by omega, show min 6 k = k by omega, List.take_succ_eq_append_getElem h, List.map_append]
    rfl
  · rw [if_neg h6, show min 6 (k + 1) = 6 by omega, show min 6 k = 6 by omega]

theorem few6_len (ls : List (List UInt8)) (k : Nat) : (few6 ls k).length ≤ 6 ∧ ∀ l ∈ few6 ls k, l.length ≤ 60 := by
  unfold few6
  refine ⟨by simp; omega, fun l hl => ?_⟩
  obtain ⟨x, _, rfl⟩ := List.mem_map.1 hl
  simp; omega

theorem flat_len (ls : List (List UInt8)) (m : Nat) (h : ∀ l ∈ ls, l.length ≤ m) : ls.flatten.length ≤ ls.length * m := by
  induction ls with
  | nil => simp
  | cons x ls ih =>
    have h1 := ih (fun l hl => h l (List.mem_cons_of_mem _ hl))
    have h2 := h x List.mem_cons_self
    simp only [List.flatten_cons, List.length_append, List.length_cons, Nat.add_mul, Nat.one_mul]
    omega

/-- one byte turned: another sum -/
theorem byte_seen (p : List UInt8) (i : Nat) (hi : i < p.length) (t : UInt8) (h : crc8 p = crc8 (p.set i (p[i] ^^^ t))) : t = 0 := by
  have hrun : Crc.run Crc.ones (nats p) = Crc.run Crc.ones (nats (p.set i (p[i] ^^^ t))) := by
    unfold crc8 Crc.crc at h
    have := congrArg (· ^^^ Crc.ones) h
    simpa [Nat.xor_assoc] using this
  have heq := Crc.burst (l := nats p) (m := nats (p.set i (p[i] ^^^ t))) (8 * i) (by simp [nats]) (nats_lt _) (nats_lt _) (fun j hj => by
    have hd : j / 8 = i := by
      rcases Nat.decEq (j / 8) i with hne | he
      · exfalso
        apply hj
        unfold Crc.bitAt nats
        rw [List.map_set]
        simp only [List.getD_eq_getElem?_getD, List.getElem?_set, if_neg (fun e : i = j / 8 => hne e.symm)]
      · exact he
    omega) hrun
  have h2 := nats_inj heq
  have h3 : p[i] = p[i] ^^^ t := by
    have := congrArg (fun l : List UInt8 => l[i]?) h2
    simpa [hi] using this
  have h4 : p[i] ^^^ p[i] = p[i] ^^^ (p[i] ^^^ t) := by rw [← h3]
  rw [← UInt8.xor_assoc] at h4
  simpa using h4.symm

end Go.Proofs.Ytbbhbbcbaliplaa
