/- Walk: the document's example of disks; what stays where a disk is written. -/
import Derived.Test.YtkonjjanoifinaaDkCopy
import Derived.Test.YtkonjjanoifinaaDkWrites
import Derived.Test.YtkonjjanoifinaaFull
namespace Go.Proofs.Ytkonjjanoifinaa
open Go.RowKit

/-- a slice that does not lie in the blocks F -/
def Away (v : Value) (F : Nat → Prop) : Prop := ∀ g o n c, v = .slice (some ⟨g, o, none⟩) n c → ¬ F g

theorem bytes_lt' {w : World} {k i n c : Nat} {l : List UInt8} (h : Bytes w (.slice (some ⟨k, i, none⟩) n c) l) (hl : l ≠ []) : k < w.heap.size := by
  obtain ⟨a', c', e, _, _, _, h | ⟨g, o, ha, h⟩⟩ := h
  · exact absurd h hl
  · cases e
    cases ha
    cases l with
    | nil => exact absurd rfl hl
    | cons b l =>
      obtain ⟨u, hu, _⟩ := h 0 b rfl
      exact block_lt_of_cell hu

theorem moved_bytes {w w' : World} {F F' : Nat → Prop} {v : Value} {p : List UInt8} (hm : Moved w w' F F') (hv : Bytes w v p) (hne : p ≠ []) (ha : Away v F) : Bytes w' v p ∧ Away v F' := by
  refine ⟨hv.only hm.only fun g o n c _ e => ha g o n c e, fun g o n c e hF => ?_⟩
  rcases hm.fresh g hF with h | h
  · exact ha g o n c e h
  · subst e
    have := bytes_lt' hv hne
    omega

theorem below_bytes {w w' : World} {v : Value} {p : List UInt8} (hb : Below w.heap.size w w') (hv : Bytes w v p) : Bytes w' v p := hv.below hb

theorem away_own {e : TypeId} {B : Nat} {w : World} {v : Value} {l : List UInt8} {F : Nat → Prop} (h : Own8 e B w v l) (hF : ∀ k, F k → k < B) : Away v F := fun g o n c e hf => by
  subst e
  have := (World.ownsRow.lt h g rfl).1
  have := hF g hf
  omega
theorem away_new {w : World} {v : Value} {p : List UInt8} {F : Nat → Prop} (hv : Bytes w v p) (hne : p ≠ []) (hF : ∀ k, F k → w.heap.size ≤ k) : Away v F := fun g o n c e hf => by
  subst e
  have := bytes_lt' hv hne
  have := hF g hf
  omega

theorem moved_disk {w w' : World} {F F' G : Nat → Prop} {g : Nat} {d : Dk} (hm : Moved w w' F F') (hd : DiskAt w g d G) (ha : ∀ k, G k → ¬ F k) : DiskAt w' g d G ∧ (∀ k, G k → ¬ F' k) := by
  refine ⟨hd.only hm.only ha, fun k hk hF => ?_⟩
  rcases hm.fresh k hF with h | h
  · exact ha k hk h
  · have := hd.lt k hk; omega

theorem bools_lit2 (w : World) (a b : Bool) (e n : Nat) (hn : n = w.heap.size) : Bools (w.alloc (.cells #[.bool a, .bool b] e)) (.slice (some ⟨n, 0, none⟩) 2 2) [a, b] := by
  subst hn
  refine ⟨_, _, rfl, by simp [maxLen], Nat.le_refl _, fun h => (by cases h), .inr ⟨_, _, rfl, fun j x hx => ?_⟩⟩
  refine ⟨.bool x, ?_, rfl⟩
  rw [Nat.zero_add, World.cell?_alloc_new w _ e j]
  match j with
  | 0 => simp at hx; subst hx; rfl
  | 1 => simp at hx; subst hx; rfl
  | j + 2 => simp at hx

theorem full_ne (p : List UInt8) : fullOf p ≠ [] := fun h => by have := fullOf_length p; rw [h] at this; cases this

def one512 : List UInt8 := fullOf [1]
theorem one_ne : one512 ≠ blank512 := fun h => by
  have h1 : one512.head? = some 1 := rfl
  rw [h] at h1
  have h2 : blank512.head? = some 0 := rfl
  rw [h2] at h1
  cases h1

theorem awake_now1 (p : List UInt8) : (((Dk.new 8).wrote 3 p).wrote 5 p).crashed [false, true] = ⟨(List.replicate 8 blank512).set 5 p, [], 0, false, 0⟩ := rfl

set_option maxRecDepth 10000 in
set_option maxHeartbeats 1600000 in
theorem awake_any (w : World) :
    Calls Try.prog 9 #[] w fun e w' => e = .returned (.bool true) ∧ Below w.heap.size w w' := by
  go_enter Try.func9, Try.ntmps9
  go_wp2_with fail
  refine (new_any 8 w (by omega) (by omega)).mono ?_
  rintro e w1 ⟨g, F, rfl, hd1, hF1, hb1⟩
  go_wp2_with fail
  have hbA := bal (bre w1) (.cells #[.int .u8 1] 5)
  have hyA := bytes_one w1 1 5
  have hdA := hd1.below hbA
  have hFl := hd1.lt
  have hb2 := btr hb1 hbA
  have hs2 := hbA.size
  obtain ⟨n1, hn1⟩ : ∃ n1, n1 = w1.heap.size := ⟨_, rfl⟩
  have hyA' : Bytes (w1.alloc (.cells #[.int .u8 1] 5)) (.slice (some ⟨n1, 0, none⟩) 1 1) [1] := by rw [hn1]; exact hyA
  rw [← hn1] at hs2 ⊢
  have hFl' : ∀ k, F k → k < n1 := by rw [hn1]; exact hFl
  clear hyA hFl hbA hn1 hd1
  generalize w1.alloc (.cells #[.int .u8 1] 5) = w2 at *
  refine (full_any _ [1] w2 hyA').mono ?_
  rintro e w3 ⟨v3, rfl, ho3, hb3⟩
  have hy3 := ho3.bytes
  have ha3 := away_own ho3 (fun k hk => by have := hFl' k hk; omega) (F := F)
  have hd3 := hdA.below hb3
  have hb03 := btr hb2 hb3
  rw [show fullOf [1] = one512 by rfl] at hy3
  clear ho3 hb3 hdA hyA' hb2 hFl' hs2
  go_wp2_with fail
  refine (write_ok g (Dk.new 8) F 3 v3 one512 w3 hd3 (by simp [Dk.new]) rfl hy3 (fullOf_length _) (by simp [Dk.new]) (by simp [Dk.new]) (by simp [Dk.new]) (by simp [Dk.new])).mono ?_
  rintro e w4 ⟨F4, rfl, hd4, hm4⟩
  obtain ⟨hy4, ha4⟩ := moved_bytes hm4 hy3 (full_ne _) ha3
  have hb4 := hm4.below hb03.size hF1
  have hF4 := hm4.ge hb03.size hF1
  have hb04 := hb03.trans hb4
  clear hy3 ha3 hd3 hm4 hb4 hb03 hF1
  go_wp2_with fail
  refine (write_ok g ((Dk.new 8).wrote 3 one512) F4 5 v3 one512 w4 hd4 (by simp [Dk.new, Dk.wrote]) rfl hy4 (fullOf_length _) (by simp [Dk.new, Dk.wrote]) (by simp [Dk.new, Dk.wrote]) (by simp [Dk.new, Dk.wrote]) (by simp [Dk.new, Dk.wrote])).mono ?_
  rintro e w5 ⟨F5, rfl, hd5, hm5⟩
  have hb5 := hm5.below hb04.size hF4
  have hb05 := hb04.trans hb5
  clear hy4 ha4 hd4 hm5 hb5 hb04 hF4
  go_wp2_with fail
  have hbA := bal (bre w5) (.cells #[.bool false, .bool true] 4)
  have hkA := bools_lit2 w5 false true 4 w5.heap.size rfl
  have hdA := hd5.below hbA
  have hb06 := btr hb05 hbA
  obtain ⟨n5, hn5⟩ : ∃ n5, n5 = w5.heap.size := ⟨_, rfl⟩
  rw [← hn5] at hkA ⊢
  clear hbA hd5 hb05 hn5
  generalize w5.alloc (.cells #[.bool false, .bool true] 4) = w6 at *
  refine (crash_ok g _ F5 _ [false, true] w6 hdA hkA (by simp [Dk.new, Dk.wrote])).mono ?_
  rintro e w7 ⟨gc, F7, rfl, hd7, hF7, hb7⟩
  rw [awake_now1] at hd7
  have hdd := hdA.below hb7
  have hb07 := btr hb06 hb7
  clear hdA hkA hb06 hb7
  go_wp2_with fail
  refine (blank_ok gc _ F7 3 w7 hd7 (by simp) (by simp)).mono ?_
  rintro e w8 ⟨rfl, hb8⟩
  rw [decide_eq_true (by rfl)]
  have hd8 := hd7.below hb8
  have hdd8 := hdd.below hb8
  have hb08 := btr hb07 hb8
  clear hd7 hdd hb07 hb8
  go_wp2_with fail
  refine (blank_ok gc _ F7 5 w8 hd8 (by simp) (by simp)).mono ?_
  rintro e w9 ⟨rfl, hb9⟩
  rw [show (⟨(List.replicate 8 blank512).set 5 one512, [], 0, false, 0⟩ : Dk).now 5 = one512 by rfl, decide_eq_false one_ne]
  have hdd9 := hdd8.below hb9
  have hb09 := btr hb08 hb9
  clear hd8 hdd8 hb08 hb9
  go_wp2_with fail
  refine (blank_ok g _ F5 3 w9 hdd9 (by simp [Dk.new, Dk.wrote]) (by simp [Dk.new, Dk.wrote])).mono ?_
  rintro e w10 ⟨rfl, hb10⟩
  rw [show (((Dk.new 8).wrote 3 one512).wrote 5 one512).now 3 = one512 by rfl, decide_eq_false one_ne]
  have hb010 := btr hb09 hb10
  go_wp2
  go_ret
  exact ⟨rfl, hb010⟩
end Go.Proofs.Ytkonjjanoifinaa
