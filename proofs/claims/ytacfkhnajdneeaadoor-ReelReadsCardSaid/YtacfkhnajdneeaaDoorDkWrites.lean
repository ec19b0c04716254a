/- Walks: what can't be written. -/
import Derived.Test.YtacfkhnajdneeaaDoorDkWrite
namespace Go.Proofs.YtacfkhnajdneeaaDoor
open Go.RowKit

set_option maxRecDepth 10000 in
theorem write_arg (g : Nat) (d : Dk) (F : Nat → Prop) (i : Int) (v : Value) (p : List UInt8) (w : World) (h : DiskAt w g d F) (hv : Bytes w v p) (hp : p.length ≠ 512) :
    Calls Tryd.prog 38 #[.pointer (some ⟨g, 0, none⟩), .int .i64 i, v] w fun e w' => e = .returned (.int .i64 1) ∧ w' = w := by
  have ht := there_any g d F i w h
  have HT := Lib.hid ht
  obtain ⟨a, c, rfl, hpm, hpc, _⟩ := hv
  have hpd : ((p.length : Int) != 512) = true := by simp; omega
  clear ht
  go_enter Tryd.func38, Tryd.ntmps38
  go_wp2_with (go_at_call 62; refine HT.out.mono ?_; rintro e w1 ⟨rfl, rfl⟩)
  all_goals
    go_ret
    exact ⟨rfl, rfl⟩

set_option maxRecDepth 10000 in
theorem write_index (g : Nat) (d : Dk) (F : Nat → Prop) (i : Int) (v : Value) (p : List UInt8) (w : World) (h : DiskAt w g d F) (hv : Bytes w v p) (hp : p.length = 512) (hi : ¬ (0 ≤ i ∧ i < d.safe.length)) :
    Calls Tryd.prog 38 #[.pointer (some ⟨g, 0, none⟩), .int .i64 i, v] w fun e w' => e = .returned (.int .i64 6) ∧ w' = w := by
  have ht := there_any g d F i w h
  rw [if_neg hi] at ht
  have HT := Lib.hid ht
  obtain ⟨a, c, rfl, hpm, hpc, _⟩ := hv
  rw [hp] at hpc ⊢
  clear ht hp
  go_enter Tryd.func38, Tryd.ntmps38
  go_wp2_with (go_at_call 62; refine HT.out.mono ?_; rintro e w1 ⟨rfl, rfl⟩)
  go_ret
  exact ⟨rfl, rfl⟩

set_option maxRecDepth 10000 in
theorem write_off (g : Nat) (d : Dk) (F : Nat → Prop) (i : Nat) (v : Value) (p : List UInt8) (w : World) (h : DiskAt w g d F) (hi : i < d.safe.length) (hm : d.may = false) (hv : Bytes w v p) (hp : p.length = 512)
    (hl0 : -9223372036854775808 < d.left) (hl1 : d.left ≤ 9223372036854775807) :
    Calls Tryd.prog 38 #[.pointer (some ⟨g, 0, none⟩), .int .i64 i, v] w fun e w' => e = .returned (.int .i64 8) ∧ DiskAt w' g d F ∧ Moved w w' F F := by
  have ht := there_any g d F i w h
  rw [if_pos (by omega)] at ht
  have HT := Lib.hid ht
  have hs := spend_any g d F w h hl0 hl1
  have hsp : d.spent = d := by unfold Dk.spent; rw [hm]; rfl
  rw [hm, hsp] at hs
  have HS := Lib.hid hs
  obtain ⟨a, c, rfl, hpm, hpc, _⟩ := hv
  rw [hp] at hpc ⊢
  clear ht hp hs hsp
  go_enter Tryd.func38, Tryd.ntmps38
  go_wp2_with first
    | (go_at_call 62; refine HT.out.mono ?_; rintro e w1 ⟨rfl, rfl⟩)
    | (go_at_call 63; refine HS.out.mono ?_; rintro e w2 ⟨rfl, hd2, hm2, ho2⟩)
  go_ret
  exact ⟨rfl, hd2, hm2⟩

set_option maxRecDepth 10000 in
theorem write_nil (i : Int) (v : Value) (p : List UInt8) (w : World) (hv : Bytes w v p) :
    Calls Tryd.prog 38 #[.pointer none, .int .i64 i, v] w fun e w' => e = .returned (.int .i64 3) ∧ w' = w := by
  obtain ⟨a, c, rfl, hpm, hpc, _⟩ := hv
  go_enter Tryd.func38, Tryd.ntmps38
  go_wp2_with (go_at_call 62; refine (there_nil i w).mono ?_; rintro e w1 ⟨rfl, rfl⟩)
  go_ret
  exact ⟨rfl, rfl⟩
end Go.Proofs.YtacfkhnajdneeaaDoor
