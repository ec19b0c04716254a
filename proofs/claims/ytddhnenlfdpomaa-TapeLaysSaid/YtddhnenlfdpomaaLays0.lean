/- Plain: what is laid is taken again. -/
import Derived.Test.YtddhnenlfdpomaaOne
namespace Go.Proofs.Ytddhnenlfdpomaa
open Go.RowKit

def most2 (f : Fld) : Nat := if f.kind % 5 = 2 then 40 else 18446744073709551615
/-- a field, as the law asks for it again -/
def again (f : Fld) : Fld := ⟨f.kind, f.n, f.s, most2 f, f.hk, f.hn, by unfold most2; split <;> omega⟩

theorem lay_take (f : Fld) (t : List UInt8) (hs : f.s.size ≤ 40) : takeRest (again f) (some (layOf f ++ t)) = some t := by
  have hcase : f.kind % 5 = 0 ∨ f.kind % 5 = 1 ∨ f.kind % 5 = 2 ∨ f.kind % 5 = 3 ∨ f.kind % 5 = 4 := by omega
  have hk : (again f).kind = f.kind := rfl
  have hm : (again f).most = most2 f := rfl
  have hn := f.hn
  unfold takeRest layOf
  rw [hk, hm]
  rcases hcase with h | h | h | h | h
  · rw [if_neg (by omega), if_neg (by omega), if_neg (by omega), if_neg (by omega), if_neg (by omega), if_neg (by omega), if_neg (by omega), if_neg (by omega)]
    have e : most2 f = 18446744073709551615 := by unfold most2; rw [if_neg (by omega)]
    rw [e, num_varint _ _ _ hn, if_pos (by omega)]
  · rw [if_pos h, if_pos h]
    have hw : -9223372036854775808 ≤ wrap64 f.n ∧ wrap64 f.n ≤ 9223372036854775807 := by unfold wrap64; omega
    have hz := zig_lt hw.1 hw.2
    unfold Rd.int
    rw [num_varint _ _ _ hz, if_pos (by omega)]
  · rw [if_neg (by omega), if_pos h, if_neg (by omega), if_pos h]
    have e : most2 f = 40 := by unfold most2; rw [if_pos h]
    have hl : f.s.data.toList.length = f.s.size := Array.length_toList
    unfold Rd.text
    rw [e, List.append_assoc, num_varint _ _ _ (by omega), if_pos (by omega)]
    simp only
    rw [if_pos (by rw [List.length_append]; omega), ← hl]
    simp
  · rw [if_neg (by omega), if_neg (by omega), if_pos h, if_neg (by omega), if_neg (by omega), if_pos h]
    rfl
  · rw [if_neg (show ¬ f.kind % 5 = 1 by omega), if_neg (show ¬ f.kind % 5 = 2 by omega), if_neg (show ¬ f.kind % 5 = 3 by omega), if_pos h, if_neg (show ¬ f.kind % 5 = 1 by omega), if_neg (show ¬ f.kind % 5 = 2 by omega), if_neg (show ¬ f.kind % 5 = 3 by omega), if_pos h]
    unfold Rd.bool
    show (if 1 < (UInt8.ofNat (f.n % 2)).toNat then none else some t) = some t
    rw [ofNat_toNat (by omega), if_neg (by omega)]
end Go.Proofs.Ytddhnenlfdpomaa
