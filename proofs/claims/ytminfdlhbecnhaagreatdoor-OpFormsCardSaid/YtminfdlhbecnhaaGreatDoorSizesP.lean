/- Plain: how many bytes a number has; what is read of them. -/
import Derived.Test.YtminfdlhbecnhaaGreatDoorRRest
namespace Go.Proofs.YtminfdlhbecnhaaGreatDoor
open Go.RowKit

theorem zag_zig (n : Int) : zag (zig n) = n := by
  unfold zag zig
  split <;> split <;> omega

theorem ofNat_toNat {n : Nat} (h : n < 256) : (UInt8.ofNat n).toNat = n := UInt8.toNat_ofNat_of_lt' (show n < UInt8.size by simp [UInt8.size]; omega)

theorem dec_varint (n : Nat) : ∀ i acc r, i ≤ 9 → (i = 0 ∨ 0 < n) → n * 128 ^ i < 18446744073709551616 → Rd.dec i acc (Vi.varint n ++ r) = some (acc + n * 128 ^ i, r) := by
  induction n using Nat.strongRecOn with
  | _ n ih =>
    intro i acc r hi h0 hlt
    have hp : 0 < 128 ^ i := Nat.pow_pos (by omega)
    have hn64 : n < 18446744073709551616 := Nat.lt_of_le_of_lt (Nat.le_mul_of_pos_right n hp) hlt
    have h9 : i = 9 → n ≤ 1 := by
      rintro rfl
      simp only [Nat.reducePow] at hlt
      omega
    by_cases h : n < 128
    · rw [Vi.varint_small h]
      simp only [List.singleton_append, Rd.dec]
      rw [ofNat_toNat (by omega), if_neg (by omega), if_pos h, Nat.mod_eq_of_lt h]
    · rw [Vi.varint_step (by omega) hn64]
      simp only [List.cons_append, Rd.dec]
      rw [ofNat_toNat (by omega), if_neg (by omega), if_neg (by omega)]
      have e : (n % 128 + 128) % 128 = n % 128 := by omega
      have e2 : n % 128 * 128 ^ i + n / 128 * 128 ^ (i + 1) = n * 128 ^ i := by
        rw [Nat.pow_succ, Nat.mul_comm (128 ^ i) 128, ← Nat.mul_assoc, ← Nat.add_mul]
        congr 1; omega
      rw [e, ih (n / 128) (by omega) (i + 1) _ r (by omega) (.inr (by omega)) (by omega), Nat.add_assoc, e2]

theorem num_varint (n most : Nat) (r : List UInt8) (hn : n < 18446744073709551616) : Rd.num most (some (Vi.varint n ++ r)) = if n ≤ most then (n, some r) else (0, none) := by
  unfold Rd.num
  rw [Option.bind_some, dec_varint n 0 0 r (by omega) (.inl rfl) (by omega)]
  simp

/-- how many bytes stand behind the first one -/
def moreOf (q : Nat) : Nat := if q = 0 then 0 else (Vi.varint q).length

theorem len_more {n : Nat} (hn : n < 18446744073709551616) : (Vi.varint n).length = 1 + moreOf (n / 128) := by
  unfold moreOf
  by_cases h : n < 128
  · rw [Vi.varint_small h, if_pos (by omega)]; rfl
  · rw [Vi.varint_step (by omega) hn, if_neg (by omega), List.length_cons, Nat.add_comm]

theorem more_step {q : Nat} (h0 : 0 < q) (hq : q < 18446744073709551616) : moreOf q = 1 + moreOf (q / 128) := by
  rw [← len_more hq]; unfold moreOf; rw [if_neg (by omega)]

theorem len_mono (m : Nat) : ∀ n, n ≤ m → m < 18446744073709551616 → (Vi.varint n).length ≤ (Vi.varint m).length := by
  induction m using Nat.strongRecOn with
  | _ m ih =>
    intro n hnm hm
    by_cases h : n < 128
    · rw [Vi.varint_small h]; exact (Vi.varint_length m).1
    · rw [Vi.varint_step (by omega) (by omega), Vi.varint_step (by omega) hm, List.length_cons, List.length_cons]
      have := ih (m / 128) (by omega) (n / 128) (by omega) (by omega)
      omega

/-! ### a writer that has nothing yet -/
def NilW (w : World) (g : Nat) : Prop := w.heap[g]? = some (.cells #[.slice none 0 0] 52 (0, 0))
theorem NilW.lt {w : World} {g : Nat} (h : NilW w g) : g < w.heap.size := (Array.getElem?_eq_some_iff.1 h).1
theorem NilW.at {w : World} {g : Nat} (h : NilW w g) (base : Nat) : WriterAt base w g [] := ⟨_, h, Own8.nil _ _ _⟩
theorem NilW.slot {w : World} {g : Nat} (h : NilW w g) : slotBlock w g = none := slotBlock_at h
theorem NilW.below {w w' : World} {g : Nat} (h : NilW w g) (hb : Below w.heap.size w w') : NilW w' g := (hb.block g h.lt).trans h
theorem NilW.only {w w' : World} {g : Nat} {S : Nat → Prop} (h : NilW w g) (ho : Only w w' S) (hs : ¬ S g) : NilW w' g := (ho.block g h.lt hs).trans h
theorem NilW.new (w : World) (n : Nat) (hn : n = w.heap.size) : NilW (w.alloc (.cells #[.slice none 0 0] 52)) n := by subst hn; exact heap_alloc_new w _
theorem Grew.nil {w w' : World} {g : Nat} (h : Grew w w' g) (hn : NilW w g) : Only w w' (fun k => k = g) :=
  h.only.mono fun i _ hi => by
    rcases hi with hi | hi
    · exact hi
    · rw [hn.slot] at hi; cases hi

theorem bytes_slot {w w' : World} {g : Nat} {v : Value} {l : List UInt8} {T : Nat} (hx : w.heap[g]? = some (.cells #[.slice none 0 0] T (0, 0))) (ho : Only w w' (fun k => k = g)) (hv : Bytes w v l) : Bytes w' v l := by
  refine hv.only ho fun k i n c hl e hk => ?_
  subst hk
  subst e
  obtain ⟨a', c', e, _, _, _, h | ⟨g0, o0, ha, h⟩⟩ := hv
  · exact absurd h hl
  · cases e
    cases ha
    cases l with
    | nil => exact absurd rfl hl
    | cons b l =>
      obtain ⟨y, hy, rfl⟩ := h 0 b rfl
      rw [cell_row hx] at hy
      rcases i with _ | i
      · cases hy
      · simp at hy
end Go.Proofs.YtminfdlhbecnhaaGreatDoor
