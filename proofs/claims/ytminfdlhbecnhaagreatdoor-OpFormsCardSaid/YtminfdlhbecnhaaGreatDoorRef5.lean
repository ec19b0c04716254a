/- Walks: the document's Num, Zig, Zag. -/
import Derived.Test.YtminfdlhbecnhaaGreatDoorJoinR
import Derived.Test.YtminfdlhbecnhaaGreatDoorSizesP
namespace Go.Proofs.YtminfdlhbecnhaaGreatDoor
open Go.RowKit

set_option maxRecDepth 10000 in
set_option maxHeartbeats 800000 in
theorem refnum_any (n : Nat) : ∀ w : World, n < 18446744073709551616 →
    Calls Tryz.prog 39 #[.int .u64 n] w fun e w' => ∃ v', e = .returned v' ∧ Own8 5 w.heap.size w' v' (Vi.varint n) ∧ Below w.heap.size w w' := by
  induction n using Nat.strongRecOn with
  | _ n ih =>
    intro w hn
    by_cases h : n < 128
    · have hl := Vi.varint_small h
      have h8 := ofNat_toNat (show n < 256 by omega)
      have ho := own8_lit 5 w #[.int .u8 n] [UInt8.ofNat n] 1 (by simp [B8, h8]) rfl (by simp [maxLen])
      have HO := Lib.hid ho
      clear ih ho
      go_enter Tryz.func39, Tryz.ntmps39
      go_wp2
      go_ret
      exact ⟨_, rfl, hl ▸ HO.out, bal (bre w) _⟩
    · have hl := Vi.varint_step (by omega) hn
      have h8 := ofNat_toNat (show n % 128 + 128 < 256 by omega)
      have e1 : ((n / 128 : Nat) : Int) = (n : Int) / 128 := by omega
      have e2 : ((n % 128 + 128 : Nat) : Int) = (n : Int) % 128 + 128 := by omega
      have ih := ih (n / 128) (by omega) (w.alloc (.cells #[.int .u8 ((n : Int) % 128 + 128)] 5)) (by omega)
      rw [e1] at ih
      have ho := own8_lit 5 w #[.int .u8 ((n : Int) % 128 + 128)] [UInt8.ofNat (n % 128 + 128)] 1 (by show [Value.int .u8 _] = [Value.int .u8 _]; rw [h8, e2]) rfl (by simp [maxLen])
      have HO := Lib.hid ho
      have HL := Lib.hid hl
      have HI := Lib.hid ih
      have hlen := (Vi.varint_length (n / 128)).2
      clear ho hl ih h8
      go_enter Tryz.func39, Tryz.ntmps39
      go_wp2_with fail
      refine HI.out.mono ?_
      rintro e w2 ⟨v2, rfl, hown2, hb2⟩
      obtain ⟨a2, n2, c2, rfl⟩ := hown2.isSlice
      have hb2' := btr (bal (bre w) (.cells #[.int .u8 ((n : Int) % 128 + 128)] 5)) hb2
      have hr := rows_lit2 w2 _ _ _ _ 26 w2.heap.size rfl (HO.out.bytes.below hb2) hown2.bytes
      have hbig : [[UInt8.ofNat (n % 128 + 128)], Vi.varint (n / 128)].flatten.length ≤ 140737488355328 := by simp; omega
      have HR := Lib.hid hr
      clear hr hown2 hb2
      go_wp2_with fail
      refine (rjoin_any _ _ _ HR.out hbig).mono ?_
      rintro e w3 ⟨v3, rfl, hown3, hb3⟩
      go_wp2
      go_ret
      refine ⟨_, rfl, ?_, btr hb2' (btr (bal (bre w2) _) hb3)⟩
      rw [HL.out]
      have h4 : [[UInt8.ofNat (n % 128 + 128)], Vi.varint (n / 128)].flatten = UInt8.ofNat (n % 128 + 128) :: Vi.varint (n / 128) := by simp
      rw [← h4]
      exact ownsRow_base hown3 (Nat.le_trans hb2'.size (bal (bre w2) _).size)

set_option maxRecDepth 10000 in
theorem zig_any (n : Int) (w : World) (h0 : -9223372036854775808 ≤ n) (h1 : n ≤ 9223372036854775807) :
    Calls Tryz.prog 60 #[.int .i64 n] w fun e w' => e = .returned (.int .u64 (zig n)) ∧ w' = w := by
  unfold zig
  by_cases h : n < 0
  · rw [if_pos h]
    go_enter Tryz.func60, Tryz.ntmps60
    go_wp2
    go_ret
    exact ⟨by go_num, rfl⟩
  · rw [if_neg h]
    go_enter Tryz.func60, Tryz.ntmps60
    go_wp2
    go_ret
    exact ⟨by go_num, rfl⟩

end Go.Proofs.YtminfdlhbecnhaaGreatDoor
