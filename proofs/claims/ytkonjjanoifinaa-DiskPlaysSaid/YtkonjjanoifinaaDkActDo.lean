/- The law's do, whatever the call. -/
import Derived.Test.YtkonjjanoifinaaDkActP
import Derived.Test.YtkonjjanoifinaaDkDo
namespace Go.Proofs.Ytkonjjanoifinaa
open Go.RowKit

theorem do_any (g : Nat) (d : Dk) (F : Nat → Prop) (v : Value) (a : Actn) (w : World) (m : Nat) (h : DiskAt w g d F) (ha : ActAt w v a) (hao : a.Ok) (hs : d.Sound m) (hm : m ≤ 1000) :
    Calls Try.prog 24 #[.pointer (some ⟨g, 0, none⟩), v] w fun e w' => ∃ g' F', e = .returned (.tuple #[.pointer (some ⟨g', 0, none⟩), .int .i64 (d.act a).1]) ∧ DiskAt w' g' (d.act a).2 F' ∧ Moved w w' F F' := by
  have hw : d.wait.length ≤ 1000000 := by have := hs.wait; omega
  have hc : d.count ≤ 1000000 := by have := hs.count; omega
  have hl0 : d.bound = true → -9223372036854775808 < d.left := fun hb => by have := hs.bound hb; omega
  have hl1 := hs.left
  unfold Dk.act
  by_cases h6 : a.do_ % 7 = 6
  · rw [if_pos h6]
    refine (do_limit g d F v a w h ha hao h6).mono ?_
    rintro e w' ⟨he, h1, h2⟩
    exact ⟨g, F, he, h1, h2⟩
  rw [if_neg h6]
  by_cases h3 : a.do_ % 7 = 3
  · rw [if_pos h3]
    by_cases hy : d.may = true
    · rw [if_pos hy]
      refine (do_sync g d F v a w h ha hao h3 hy hl0 hl1 hw).mono ?_
      rintro e w' ⟨F', he, h1, h2⟩
      exact ⟨g, F', he, h1, h2⟩
    · rw [if_neg hy]
      refine (do_sync_off g d F v a w h ha hao h3 (by simpa using hy) hl0 hl1).mono ?_
      rintro e w' ⟨he, h1, h2⟩
      exact ⟨g, F, he, h1, h2⟩
  rw [if_neg h3]
  by_cases h4 : a.do_ % 7 = 4
  · rw [if_pos h4]
    by_cases hb : a.n < 0 ∨ 32 < a.n ∨ a.bit < 0 ∨ 4096 < a.bit + a.n
    · rw [if_pos hb]
      refine (do_rot_arg g d F v a w h ha hao h4 hb).mono ?_
      rintro e w' ⟨he, h1, h2⟩
      exact ⟨g, F, he, h1, h2⟩
    · rw [if_neg hb]
      by_cases hi : 0 ≤ a.i ∧ a.i < d.safe.length
      · rw [if_pos hi]
        refine (do_rot g d F v a w h ha hao h4 (by omega) (by omega) (by omega) (by omega) hi.1 hi.2 hw).mono ?_
        rintro e w' ⟨he, h1, h2⟩
        exact ⟨g, F, he, h1, h2⟩
      · rw [if_neg hi]
        refine (do_rot_index g d F v a w h ha hao h4 (by omega) (by omega) (by omega) (by omega) hi).mono ?_
        rintro e w' ⟨he, h1, h2⟩
        exact ⟨g, F, he, h1, h2⟩
  rw [if_neg h4]
  by_cases h5 : a.do_ % 7 = 5
  · rw [if_pos h5]
    refine (do_crash g d F v a w h ha hao h5 hw).mono ?_
    rintro e w' ⟨g', F', he, h1, h2, h3⟩
    exact ⟨g', F', he, h1, ⟨Only.of_below h3 F, fun k hk => .inr (h2 k hk)⟩⟩
  rw [if_neg h5]
  have hz : a.do_ % 7 < 3 := by omega
  by_cases ho : a.odd = true
  · rw [if_pos ho]
    refine (do_write_odd g d F v a w h ha hao _ hz rfl ho).mono ?_
    rintro e w' ⟨he, h1, h2⟩
    exact ⟨g, F, he, h1, h2⟩
  rw [if_neg ho]
  have ho' : a.odd = false := by simpa using ho
  by_cases hi : 0 ≤ a.i ∧ a.i < d.safe.length
  · rw [if_pos hi]
    by_cases hy : d.may = true
    · rw [if_pos hy]
      refine (do_write g d F v a w h ha hao _ hz rfl ho' hi hy hl0 hl1 hc hw).mono ?_
      rintro e w' ⟨F', he, h1, h2⟩
      exact ⟨g, F', he, h1, h2⟩
    · rw [if_neg hy]
      refine (do_write_off g d F v a w h ha hao _ hz rfl ho' hi (by simpa using hy) hl0 hl1).mono ?_
      rintro e w' ⟨he, h1, h2⟩
      exact ⟨g, F, he, h1, h2⟩
  · rw [if_neg hi]
    refine (do_write_index g d F v a w h ha hao _ hz rfl ho' hi).mono ?_
    rintro e w' ⟨he, h1, h2⟩
    exact ⟨g, F, he, h1, h2⟩

def RefDoSpec : Prop := ∀ (r : Nat) (d : Dk) (F : Nat → Prop) (v : Value) (a : Actn) (w : World) (m : Nat), RefAt w r d F → ActAt w v a → a.Ok → d.Sound m → m ≤ 1000 →
  (a.p ≠ [] → ∀ vs, v = .agg vs → ∀ g o n c, vs[2]? = some (.slice (some ⟨g, o, none⟩) n c) → ¬ F g) →
  Calls Try.prog 23 #[.pointer (some ⟨r, 0, none⟩), v] w fun e w' => ∃ r' F', e = .returned (.tuple #[.pointer (some ⟨r', 0, none⟩), .int .i64 (d.act a).1]) ∧ RefAt w' r' (d.act a).2 F' ∧ Moved w w' F F'
end Go.Proofs.Ytkonjjanoifinaa
