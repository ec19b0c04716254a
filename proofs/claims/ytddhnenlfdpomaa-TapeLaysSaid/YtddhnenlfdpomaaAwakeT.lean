/- Walks: awake, of layer 5. -/
import Derived.Test.YtddhnenlfdpomaaSizesP
import Derived.Test.YtddhnenlfdpomaaSame
namespace Go.Proofs.Ytddhnenlfdpomaa
open Go.RowKit

theorem num_nil (g n : Nat) (w : World) (hn : n < 18446744073709551616) (hw : NilW w g) :
    Calls Try.prog 9 #[.pointer (some ⟨g, 0, none⟩), .int .u64 n] w fun e w' =>
      e = .returned (.pointer (some ⟨g, 0, none⟩)) ∧ WriterAt w.heap.size w' g (Vi.varint n) ∧ Only w w' (fun k => k = g) :=
  (num_any w.heap.size g [] n w hn (hw.at _) (by simp) (Nat.le_refl _)).mono fun _ _ ⟨h1, h2, h3⟩ => ⟨h1, h2, h3.nil hw⟩

theorem int_nil (g : Nat) (n : Int) (w : World) (h0 : -9223372036854775808 ≤ n) (h1 : n ≤ 9223372036854775807) (hw : NilW w g) :
    Calls Try.prog 11 #[.pointer (some ⟨g, 0, none⟩), .int .i64 n] w fun e w' =>
      e = .returned (.pointer (some ⟨g, 0, none⟩)) ∧ WriterAt w.heap.size w' g (Vi.varint (zig n)) ∧ Only w w' (fun k => k = g) :=
  (wint_any w.heap.size g [] n w h0 h1 (hw.at _) (by simp) (Nat.le_refl _)).mono fun _ _ ⟨h1, h2, h3⟩ => ⟨h1, h2, h3.nil hw⟩

/-- what a writer's own block, and its bytes, may be, all that was there ahead of it stays -/
theorem Grew.base {B base : Nat} {w w' : World} {g : Nat} {l : List UInt8} (h : Grew w w' g) (hw : WriterAt base w g l) (hg : B ≤ g) (hb : B ≤ base) (hB : B ≤ w.heap.size) : Below B w w' := by
  refine h.only.below B hB fun i hi hs => ?_
  rcases hs with rfl | hs
  · omega
  · obtain ⟨v, hv, hown⟩ := hw
    rw [slotBlock_at hv] at hs
    rcases hown.2 with ⟨rfl, _⟩ | ⟨g', c, cur, rfl, h1, h2, h3⟩
    · cases hs
    · simp [Value.ownBlock] at hs
      subst hs
      omega

theorem Turned.base {B : Nat} {w w' : World} {v : Value} (h : Turned w w' v) (hv : ∀ k, v = .pointer (some ⟨k, 0, none⟩) → B ≤ k) (hB : B ≤ w.heap.size) : Below B w w' :=
  Only.below h B hB fun i hi hs => by have := hv i hs; omega
theorem Bytes.turned {B : Nat} {w w' : World} {v u : Value} {l : List UInt8} (h : Turned w w' v) (hv : ∀ k, v = .pointer (some ⟨k, 0, none⟩) → B ≤ k) (hu : Bytes w u l)
    (hl : ∀ k i n c, l ≠ [] → u = .slice (some ⟨k, i, none⟩) n c → k < B) : Bytes w' u l :=
  hu.only h fun g i n c hn e hs => by have := hl g i n c hn e; have := hv g hs; omega

def awakeBytes : List UInt8 := [172, 2, 1]

set_option maxRecDepth 10000 in
set_option maxHeartbeats 800000 in
theorem awake_any (w : World) :
    Calls Try.prog 8 #[] w fun e w' => e = .returned (.bool true) ∧ Below w.heap.size w w' := by
  have hb0 := bal (bre w) (.cells #[.slice none 0 0] 26)
  have hN := NilW.new w w.heap.size rfl
  have hsz0 : w.heap.size < (w.alloc (.cells #[.slice none 0 0] 26)).heap.size := by simp
  have hs1 : Rd.num 299 (some awakeBytes) = (0, none) := by decide
  have hs2 : Rd.num 300 (some awakeBytes) = (300, some [1]) := by decide
  go_enter Try.func8, Try.ntmps8
  go_wp2_with fail
  generalize w.alloc (.cells #[.slice none 0 0] 26) = W at *
  generalize hgw : w.heap.size = g at *
  refine (num_nil g 300 W (by omega) hN).mono ?_
  rintro e w1 ⟨rfl, hw1, ho1⟩
  have hb1 := ho1.size
  go_wp2_with fail
  refine (wint_any W.heap.size g _ (-1) w1 (by omega) (by omega) hw1 (by have := (Vi.varint_length 300).2; omega) ho1.size).mono ?_
  rintro e w2 ⟨rfl, hw2, hg2⟩
  have hb2 := hg2.base hw1 (Nat.le_refl g) (by omega) (by omega)
  have hsz2 := hb2.size
  have hB1 : Below g W w1 := ho1.below g (by omega) (by intro i hi h; omega)
  have hl : Vi.varint 300 ++ Vi.varint (zig (-1)) = awakeBytes := by decide
  rw [hl] at hw2
  go_wp2_with fail
  refine (wbytes_any W.heap.size g _ w2 hw2 (by decide)).mono ?_
  rintro e w3 ⟨v3, rfl, hown3, hb3⟩
  have hy3 := hown3.bytes
  obtain ⟨a3, n3, c3, rfl⟩ := hown3.isSlice
  have hin3 : ∀ k i n c, awakeBytes ≠ [] → Value.slice a3 n3 c3 = .slice (some ⟨k, i, none⟩) n c → k < w3.heap.size := fun k i n c hl e => by
    cases e; exact bytes_lt hy3 hl
  have hlit : Bytes (w3.alloc (.cells #[.int .u8 172, .int .u8 2, .int .u8 1] 5)) (.slice (some ⟨w3.heap.size, 0, none⟩) 3 3) awakeBytes :=
    (own8_lit 5 w3 #[.int .u8 172, .int .u8 2, .int .u8 1] awakeBytes 3 rfl rfl (by decide)).bytes
  have hy4 := hy3.below (bal (bre w3) (.cells #[.int .u8 172, .int .u8 2, .int .u8 1] 5))
  have hb4 : Below g w (w3.alloc (.cells #[.int .u8 172, .int .u8 2, .int .u8 1] 5)) := by
    have h1 : Below g w w2 := hb0.trans (hB1.trans hb2)
    have h2 : Below g w w3 := h1.trans (hb3.mono (by omega))
    exact h2.trans ((bal (bre w3) _).mono (by have := h2.size; omega))
  have hsz4 : w3.heap.size < (w3.alloc (.cells #[.int .u8 172, .int .u8 2, .int .u8 1] 5)).heap.size := by simp
  have hg3 : g ≤ w3.heap.size := by have := hb3.size; omega
  go_wp2_with fail
  generalize w3.alloc (.cells #[.int .u8 172, .int .u8 2, .int .u8 1] 5) = W4 at *
  refine (same_any _ _ _ _ W4 hy4 hlit).mono ?_
  rintro e w5 ⟨rfl, k5, rfl⟩
  have hy5 := hy4.below (bdn (bre W4) k5)
  have hb5 : Below g w (W4.drewN k5) := hb4.trans ((bdn (bre W4) k5).mono (by have := hb4.size; omega))
  have hsz5 : (W4.drewN k5).heap.size = W4.heap.size := rfl
  generalize W4.drewN k5 = w5 at *
  go_wp2_with fail
  refine (read_any _ _ w5 hy5 (by decide)).mono ?_
  rintro e w6 ⟨r6, rfl, hr6, hb6, hk6⟩
  have hy6 := hy5.below hb6
  go_wp2_with fail
  refine (rnum_any _ r6 _ 299 w6 hr6).mono ?_
  rintro e w7 ⟨rfl, _, ht7⟩
  have hb7 := ht7.base hk6 hb6.size
  have hy7 := hy6.turned ht7 hk6 (fun k i n c hl e => by have := hin3 k i n c hl e; omega)
  rw [hs1]
  go_wp2_with fail
  refine (read_any _ _ w7 hy7 (by decide)).mono ?_
  rintro e w8 ⟨r8, rfl, hr8, hb8, hk8⟩
  go_wp2_with fail
  refine (rnum_any _ r8 _ 300 w8 hr8).mono ?_
  rintro e w9 ⟨rfl, _, ht9⟩
  have hb9 := ht9.base hk8 hb8.size
  rw [hs2]
  go_wp2
  go_ret
  have e1 : g ≤ w5.heap.size := by have := hb5.size; omega
  have e2 : w5.heap.size ≤ w7.heap.size := Nat.le_trans hb6.size hb7.size
  rw [hgw]
  refine ⟨rfl, hb5.trans ((hb6.mono e1).trans ((hb7.mono e1).trans ((hb8.mono (by omega)).trans (hb9.mono (by omega)))))⟩
end Go.Proofs.Ytddhnenlfdpomaa
