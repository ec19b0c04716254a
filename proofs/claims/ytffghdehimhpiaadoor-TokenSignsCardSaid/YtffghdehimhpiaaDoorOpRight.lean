/- Walks: names; whether an operation may be. -/
import Derived.Test.YtffghdehimhpiaaDoorOpWords
import Derived.Test.YtffghdehimhpiaaDoorOrdG
import Derived.Laws.BitsLemmas
import Derived.Deep.QuietTactic
import Derived.BigQuiet
import Derived.Deep.RegionHeld3
namespace Go.Proofs.YtffghdehimhpiaaDoor
open Go.RowKit

theorem anyZ_oneSkip {P : Program} {ops : Array Oper} {Q : Exit → Act → World → Prop} {md : Region.Mode} {S : World → Prop} {i z : Nat} {oi : Oper} {fuel : Nat} {listed : Array Bool} {a : Act} {w : World} (hcl : Closed md ops listed) (hr : Region.ready md ops listed = [i]) (hi : ops[i]? = some oi) (hg : Region.wanted oi (yielded ops a.tmps) = false)
    (hS : (listed.setIfInBounds i true).getD z true = false → S w) (h : Closed md ops (listed.setIfInBounds i true) → AnyZ P md ops Q S z fuel (listed.setIfInBounds i true) (a.put oi.dst undef) w) :
    AnyZ P md ops Q S z (fuel + 1) listed a w := by
  refine ⟨fun h0 => (by rw [hr] at h0; cases h0), fun j hj => ?_⟩
  rw [hr] at hj
  have hji : j = i := by simpa using hj
  subst hji
  unfold wpOp
  simp only [hi]
  rw [if_neg (by rw [hg]; decide)]
  exact ⟨hS, h (hcl.set (by rw [hr]; simp))⟩

theorem i64_and1 (n : Int) : bits .and .i64 n 1 = n % 2 := by
  have h1 : (BitVec.ofInt 64 1).toNat = 2 ^ 1 - 1 := by decide
  have key : (BitVec.ofInt 64 n &&& BitVec.ofInt 64 1).toNat = (n % ((2 ^ 64 : Nat) : Int)).toNat % 2 ^ 1 := by
    rw [BitVec.toNat_and, BitVec.toNat_ofInt, h1, Nat.and_two_pow_sub_one_eq_mod]
  show IntKind.i64.wrap ((BitVec.ofInt 64 n &&& BitVec.ofInt 64 1).toNat : Nat) = n % 2
  rw [key, IntKind.wrap_i64]
  omega

def mk8 (l : List UInt8) : ByteArray := ⟨l.toArray⟩
theorem strV_mk (l : List UInt8) : strV l = .string (mk8 l) := rfl

set_option maxRecDepth 100000 in
theorem twords_any (w : World) (hsp : Sp w) : Calls Tryd.prog 22 #[] w fun e w' => e = .returned (.slice (some ⟨w.heap.size, 0, none⟩) 14 14) ∧ w' = w.alloc (.cells (tokWords.map strV).toArray 9) := by
  go_enter Tryd.func22, Tryd.ntmps22
  go_wp2_with fail
  refine (fields_is _ tokWords 14 w hsp (by kernel_rfl) rfl (of_decide_eq_true (by kernel_rfl)) (by kernel_rfl)).mono ?_
  rintro e w1 ⟨rfl, rfl⟩
  go_wp2_with fail
  go_ret
  exact ⟨rfl, rfl⟩

def isWordB (s : ByteArray) : Bool := Lib.containsS (tokWords.map mk8) s
def nameB (s : ByteArray) : Bool := shapedB s.data.toList && !isWordB s

set_option maxRecDepth 100000 in
theorem isword_any (s : ByteArray) (w : World) (hsp : Sp w) : Calls Tryd.prog 18 #[.string s] w fun e w' => e = .returned (.bool (isWordB s)) ∧ Below w.heap.size w w' := by
  go_enter Tryd.func18, Tryd.ntmps18
  go_wp2_with fail
  refine (twords_any w hsp).mono ?_
  rintro e w1 ⟨rfl, rfl⟩
  have hb := bal (bre w) (.cells (tokWords.map strV).toArray 9)
  have hrow := heap_alloc_new w (.cells (tokWords.map strV).toArray 9)
  generalize w.alloc (.cells (tokWords.map strV).toArray 9) = W at *
  have hc : ∀ j, j < (tokWords.map mk8).length → W.cell? ⟨w.heap.size, 0 + j, none⟩ = some (.string ((tokWords.map mk8).getD j ByteArray.empty)) := fun j hj => by
    rw [List.length_map] at hj
    rw [Nat.zero_add, strs_cell hrow j hj, strV_mk]
    simp [List.getD_eq_getElem?_getD, List.getElem?_eq_getElem hj]
  have HB := Lib.hid hb
  have HC := Lib.hid hc
  clear hb hrow hc hsp
  go_wp2_with fail
  refine (contains_any w.heap.size 14 (tokWords.map mk8) s W rfl (by decide) HC.out).mono ?_
  rintro e w2 ⟨rfl, hw⟩
  have hw' := hw.symm
  subst hw'
  clear hw
  go_wp2_with fail
  go_ret
  exact ⟨rfl, HB.out⟩

set_option maxRecDepth 10000 in
theorem isname_any (s : ByteArray) (w : World) (hs : s.size ≤ 9223372036854775807) (hsp : Sp w) : Calls Tryd.prog 19 #[.string s] w fun e w' => e = .returned (.bool (nameB s)) ∧ Below w.heap.size w w' := by
  go_enter Tryd.func19, Tryd.ntmps19
  go_wp2_with fail
  refine (shaped_any s w hs).mono ?_
  rintro e w1 ⟨rfl, hw⟩
  have hw' := hw.symm
  subst hw'
  clear hw
  cases h : shapedB s.data.toList with
  | false =>
    have hn : Hid (nameB s = false) := Lib.hid (by unfold nameB; rw [h]; rfl)
    clear h
    go_wp2_with fail
    go_ret
    exact ⟨by rw [hn.out]; rfl, bre w⟩
  | true =>
    have hn : Hid (nameB s = !isWordB s) := Lib.hid (by unfold nameB; rw [h]; rfl)
    clear h
    go_wp2_with fail
    refine (isword_any s w hsp).mono ?_
    rintro e w2 ⟨rfl, hb⟩
    have HB := Lib.hid hb
    clear hb
    go_wp2_with fail
    go_ret
    exact ⟨by rw [hn.out]; rfl, HB.out⟩

/-- may an operation be? -/
def rightB (k a b : Nat) (nm : ByteArray) : Bool :=
  decide (1 ≤ k) && (decide (k ≤ 14) && ((decide (a ≠ 0) == decide (k ≠ 10)) && ((decide (b ≠ 0) == (288 : Nat).testBit k) && ((decide (nm.size ≠ 0) == (1374 : Nat).testBit k) && (decide (nm.size = 0) || nameB nm)))))

end Go.Proofs.YtffghdehimhpiaaDoor
