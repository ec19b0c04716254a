/- Walks: Table.Open. -/
import Derived.Test.YtejdlgfiiagcmaaDoorSeal
import Derived.Deep.RegionHeld3
namespace Go.Proofs.YtejdlgfiiagcmaaDoor
open Go.RowKit

set_option maxRecDepth 10000 in
set_option maxHeartbeats 400000 in
theorem open_short (v : Value) (p : List UInt8) (w : World) (hv : Bytes w v p) (h4 : p.length < 4) :
    Calls Tryd.prog 55 #[.agg tab, v] w fun e w' => e = .returned (.tuple #[.slice none 0 0, .int .i64 2]) ∧ Below w.heap.size w w' := by
  obtain ⟨a, cp, rfl, _, _, _, _⟩ := id hv
  go_enter Tryd.func55, Tryd.ntmps55
  go_wp2
  go_ret2
  exact ⟨rfl, (Below.refl _ _).alloc (Nat.le_refl _) _⟩

/-- what Open tells of bytes -/
def OpenPost (w : World) (p : List UInt8) (m : Nat) (e : Ending) (w' : World) : Prop :=
  Below w.heap.size w w' ∧ ((p = p.take m ++ lows (crc8 (p.take m)) ∧ ∃ v', e = .returned (.tuple #[v', .int .i64 0]) ∧ Own8 5 w.heap.size w' v' (p.take m)) ∨
    (p ≠ p.take m ++ lows (crc8 (p.take m)) ∧ e = .returned (.tuple #[.slice none 0 0, .int .i64 7])))

set_option maxRecDepth 10000 in
set_option maxHeartbeats 400000 in
theorem open_long (v : Value) (p : List UInt8) (m : Nat) (w : World) (hv : Bytes w v p) (hm : p.length = m + 4) (hbig : p.length ≤ 100000000) :
    Calls Tryd.prog 55 #[.agg tab, v] w (OpenPost w p m) := by
  obtain ⟨a, cp, rfl, _, hcp, _, _⟩ := id hv
  rw [hm] at hv hcp ⊢
  have hit : (Tryd.prog.info? 100).map (·.size) = some tabL.length := by rw [size_tabL]; exact info_tab
  have hu := Tryd.underlying100
  have h0 : (0 : Int) ≤ m := by omega
  have h1 : (m : Int) ≤ cp := by omega
  have h2 : (m : Int) ≤ 100000000 := by omega
  have hb1 : Below w.heap.size w (w.alloc (.cells tab 100)) := (Below.refl _ _).alloc (Nat.le_refl _) _
  have hS : (w.alloc (.cells tab 100)).drew.rangeAt w.heap.size 0 tabL := rangeAt_new w tabL _ _ rfl
  have hvd : Bytes (w.alloc (.cells tab 100)).drew (.slice a (m + 4) cp) p := hv.below hb1.drew
  have hvt : Bytes (w.alloc (.cells tab 100)).drew (.slice a m cp) (p.take m) := hvd.firsts m (by omega)
  obtain ⟨q, hq⟩ : ∃ q, q = p.take m := ⟨_, rfl⟩
  rw [← hq] at hvt
  have hql : q.length ≤ 100000000 := by rw [hq]; simp; omega
  have HQ := Lib.hid hq
  have HM := Lib.hid hm
  clear hm hcp hq
  by_cases he : q ++ lows (crc8 q) = p
  · have hd : decide (q ++ lows (crc8 q) = p) = true := decide_eq_true he
    have HE := Lib.hid he
    clear he
    go_enter Tryd.func55, Tryd.ntmps55
    go_wp2_with fail
    go_region_held3 (fun w' => w'.rangeAt w.heap.size 0 tabL) (first | exact hS | (exact rangeAt_below hS hb3 (by simp))) (first | (go_at_call 53; refine (seal_any _ q _ hvt hql).mono ?_; rintro e w1 ⟨v1, rfl, hown, hb3⟩) | (go_at_call 57; refine (equal_any _ _ _ p _ hown.bytes (hvd.below hb3)).mono ?_; rintro e w2 ⟨rfl, hw2⟩; subst hw2))
    go_wp2_with fail
    have hb4 : Below w.heap.size w w2 := hb1.drew.trans (hb3.mono (by simp))
    refine (clone_any _ q _ (hvt.below hb3) (by omega)).mono ?_
    rintro e w3 ⟨v3, rfl, hown3, hb5⟩
    have hsz := hb4.size
    have hb6 : Below w.heap.size w w3 := hb4.trans (hb5.mono hsz)
    have hown4 : Own8 5 w.heap.size w3 v3 q := ownsRow_base hown3 hsz
    clear hb3 hb4 hb5 hown hown3 hsz
    go_wp2
    go_ret2
    have hq := HQ.out
    refine ⟨hb6, .inl ⟨by rw [← hq]; exact HE.out.symm, v3, rfl, by rw [← hq]; exact hown4⟩⟩
  · have hd : decide (q ++ lows (crc8 q) = p) = false := decide_eq_false he
    have HE := Lib.hid he
    clear he
    go_enter Tryd.func55, Tryd.ntmps55
    go_wp2_with fail
    go_region_held3 (fun w' => w'.rangeAt w.heap.size 0 tabL) (first | exact hS | (exact rangeAt_below hS hb3 (by simp))) (first | (go_at_call 53; refine (seal_any _ q _ hvt hql).mono ?_; rintro e w1 ⟨v1, rfl, hown, hb3⟩) | (go_at_call 57; refine (equal_any _ _ _ p _ hown.bytes (hvd.below hb3)).mono ?_; rintro e w2 ⟨rfl, hw2⟩; subst hw2))
    go_wp2_with fail
    have hb4 : Below w.heap.size w w2 := hb1.drew.trans (hb3.mono (by simp))
    go_ret2
    have hq := HQ.out
    refine ⟨hb4, .inr ⟨by rw [← hq]; exact fun h => HE.out h.symm, rfl⟩⟩
end Go.Proofs.YtejdlgfiiagcmaaDoor
