/- Walk: the law's lay: a field is written. -/
import Derived.Test.YtddhnenlfdpomaaLayR
namespace Go.Proofs.Ytddhnenlfdpomaa
open Go.RowKit

theorem Grew.pre {w w1 w' : World} {g : Nat} (hb : Below w.heap.size w w1) (hg : g < w.heap.size) (h : Grew w1 w' g) : Grew w w' g := (Grew.of_below hb hg).trans h

set_option maxRecDepth 10000 in
set_option maxHeartbeats 1600000 in
theorem lay_any (base g : Nat) (l : List UInt8) (f : Fld) (w : World) (hs : f.s.size ≤ 1000000) (hl : l.length ≤ 100000000) (hw : WriterAt base w g l) (hbase : base ≤ w.heap.size) :
    Calls Try.prog 21 #[.pointer (some ⟨g, 0, none⟩), FldV f] w fun e w' =>
      e = .returned (.pointer (some ⟨g, 0, none⟩)) ∧ WriterAt base w' g (l ++ layOf f) ∧ Grew w w' g := by
  obtain ⟨kind, n, s, most, hk, hn, hm⟩ := f
  unfold FldV Fld.cells layOf
  simp only at hs ⊢
  have hb0 := bal (bre w) (.cells #[.int .u8 kind, .int .u64 n, .string s, .int .u64 most] 40)
  have hw0 := hw.below hb0
  have hlt := hw.lt
  have hbase0 : base ≤ (w.alloc (.cells #[.int .u8 kind, .int .u64 n, .string s, .int .u64 most] 40)).heap.size := Nat.le_trans hbase hb0.size
  clear hw hbase
  have hcase : kind % 5 = 1 ∨ kind % 5 = 2 ∨ kind % 5 = 3 ∨ kind % 5 = 4 ∨ kind % 5 = 0 := by omega
  rcases hcase with h | h | h | h | h
  · rw [if_pos h]
    have hwr : -9223372036854775808 ≤ wrap64 n ∧ wrap64 n ≤ 9223372036854775807 := by unfold wrap64; omega
    have hc := wint_any base g l (wrap64 n) _ hwr.1 hwr.2 hw0 (by omega) hbase0
    have HC := Lib.hid hc
    clear hc hw0 hbase0
    go_enter Try.func21, Try.ntmps21
    go_wp2_with (go_at_call 11; refine HC.out.mono ?_; rintro e w1 ⟨rfl, hw1, hg1⟩)
    go_ret
    exact ⟨rfl, hw1, hg1.pre hb0 hlt⟩
  · rw [if_neg (by omega), if_pos h]
    have hc := wtext_any base g l s _ (by omega) hw0 (by omega) hbase0
    have HC := Lib.hid hc
    clear hc hw0 hbase0
    go_enter Try.func21, Try.ntmps21
    go_wp2_with (go_at_call 26; refine HC.out.mono ?_; rintro e w1 ⟨rfl, hw1, hg1⟩)
    go_ret
    exact ⟨rfl, hw1, hg1.pre hb0 hlt⟩
  · rw [if_neg (by omega), if_neg (by omega), if_pos h]
    have hc := wbyte_any base g l (UInt8.ofNat (n % 256)) _ hw0 (by omega) hbase0
    rw [ofNat_toNat (show n % 256 < 256 by omega), show ((n % 256 : Nat) : Int) = (n : Int) % 256 by omega] at hc
    have HC := Lib.hid hc
    clear hc hw0 hbase0
    go_enter Try.func21, Try.ntmps21
    go_wp2_with (go_at_call 27; refine HC.out.mono ?_; rintro e w1 ⟨rfl, hw1, hg1⟩)
    go_ret
    exact ⟨rfl, hw1, hg1.pre hb0 hlt⟩
  · rw [if_neg (by omega), if_neg (by omega), if_neg (by omega), if_pos h]
    have hc := wbool_any base g l (decide (n % 2 = 1)) _ hw0 (by omega) hbase0
    have e1 : ((n : Int) % 2 == 1) = decide (n % 2 = 1) := by
      rcases (by omega : n % 2 = 0 ∨ n % 2 = 1) with e | e
      · rw [e]; simp; omega
      · rw [e]; simp; omega
    have e2 : (if decide (n % 2 = 1) = true then (1 : UInt8) else 0) = UInt8.ofNat (n % 2) := by
      rcases (by omega : n % 2 = 0 ∨ n % 2 = 1) with e | e
      · rw [e]; rfl
      · rw [e]; rfl
    rw [e2, ← e1] at hc
    have HC := Lib.hid hc
    clear hc hw0 hbase0 e1 e2
    go_enter Try.func21, Try.ntmps21
    go_wp2_with (go_at_call 28; refine HC.out.mono ?_; rintro e w1 ⟨rfl, hw1, hg1⟩)
    go_ret
    exact ⟨rfl, hw1, hg1.pre hb0 hlt⟩
  · rw [if_neg (by omega), if_neg (by omega), if_neg (by omega), if_neg (by omega)]
    have hc := num_any base g l n _ hn hw0 (by omega) hbase0
    have HC := Lib.hid hc
    clear hc hw0 hbase0
    go_enter Try.func21, Try.ntmps21
    go_wp2_with (go_at_call 9; refine HC.out.mono ?_; rintro e w1 ⟨rfl, hw1, hg1⟩)
    go_ret
    exact ⟨rfl, hw1, hg1.pre hb0 hlt⟩
end Go.Proofs.Ytddhnenlfdpomaa
