/- Walks: the document's Kinds, Parts, has. -/
import Derived.Test.YtminfdlhbecnhaaGreatDoorOpWords
import Derived.Deep.QuietTactic
import Derived.BigQuiet
import Derived.Lib.Split
namespace Go.Proofs.YtminfdlhbecnhaaGreatDoor
open Go.RowKit

/-- the document's rows: word, blank, what it has -/
def opKinds : List (List UInt8) := List.zipWith (fun w p => w ++ 32 :: p) opWords opParts

theorem kinds_at (j : Nat) (h : j < 14) : opKinds.getD j [] = opWords.getD j [] ++ 32 :: opParts.getD j [] := by
  revert h
  revert j
  decide +kernel

theorem words_clean (j : Nat) (h : j < 14) : ∀ b ∈ opWords.getD j [], b.toNat ≠ 32 := by
  revert h
  revert j
  decide +kernel

set_option maxRecDepth 100000 in
theorem kinds_any (w : World) : Calls Tryz.prog 43 #[] w fun e w' => e = .returned (.slice (some ⟨w.heap.size, 0, none⟩) 14 14) ∧ w' = w.alloc (.cells (opKinds.map strV).toArray 9) := by
  go_enter Tryz.func43, Tryz.ntmps43
  go_wp2_with fail
  go_ret
  exact ⟨rfl, rfl⟩

theorem mk_eq {s : ByteArray} {l : List UInt8} (h : s.data.toList = l) : Value.string s = strV l := by
  subst h; rfl

set_option maxRecDepth 100000 in
set_option maxHeartbeats 1600000 in
theorem parts_any (k : Nat) (hk : k < 256) (w : World) : Calls Tryz.prog 19 #[.int .u8 k] w fun e w' => e = .returned (.tuple #[strV (wordOf k), strV (partsOf k)]) ∧ Below w.heap.size w w' := by
  by_cases h0 : k = 0
  · subst h0
    go_enter Tryz.func19, Tryz.ntmps19
    go_wp2_with fail
    go_ret2
    exact ⟨rfl, bre w⟩
  by_cases h14 : 14 < k
  · have hd : decide ((14 : Int) < k) = true := decide_eq_true (by omega)
    have hd0 : decide ((k : Int) < 1) = false := decide_eq_false (by omega)
    have hw : wordOf k = [] := by
      unfold wordOf
      rw [if_neg h0, List.getD_eq_getElem?_getD, List.getElem?_eq_none (by show 14 ≤ k - 1; omega)]
      rfl
    have hp : partsOf k = [] := by
      unfold partsOf
      rw [if_neg h0, List.getD_eq_getElem?_getD, List.getElem?_eq_none (by show 14 ≤ k - 1; omega)]
      rfl
    have HW := Lib.hid hw
    have HP := Lib.hid hp
    clear hw hp h0 h14
    go_enter Tryz.func19, Tryz.ntmps19
    go_wp2_with fail
    go_ret2
    exact ⟨by rw [HW.out, HP.out]; rfl, bre w⟩
  obtain ⟨j, rfl⟩ : ∃ j, k = j + 1 := ⟨k - 1, by omega⟩
  have hj : j < 14 := by omega
  have hd : decide ((14 : Int) < ((j + 1 : Nat) : Int)) = false := decide_eq_false (by omega)
  have hd0 : decide ((((j + 1 : Nat) : Int)) < 1) = false := decide_eq_false (by omega)
  have hw : wordOf (j + 1) = opWords.getD j [] := by unfold wordOf; rw [if_neg h0]; rfl
  have hp : partsOf (j + 1) = opParts.getD j [] := by unfold partsOf; rw [if_neg h0]; rfl
  have hka := kinds_at j hj
  have hcl := words_clean j hj
  have hlw : ∀ j, j < 14 → (opWords.getD j []).length ≤ 100 ∧ (opParts.getD j []).length ≤ 100 := by decide +kernel
  obtain ⟨hl1, hl2⟩ := hlw j hj
  rw [hw, hp]
  obtain ⟨W, hWW⟩ : ∃ W, W = opWords.getD j [] := ⟨_, rfl⟩
  obtain ⟨P, hPP⟩ : ∃ P, P = opParts.getD j [] := ⟨_, rfl⟩
  rw [← hWW] at hka hcl hl1 ⊢
  rw [← hPP] at hka hl2 ⊢
  clear hw hp hWW hPP hlw h0 h14
  go_enter Tryz.func19, Tryz.ntmps19
  go_wp2_with fail
  refine (kinds_any w).mono ?_
  rintro e w1 ⟨rfl, rfl⟩
  have hb := bal (bre w) (.cells (opKinds.map strV).toArray 9)
  have hrow := heap_alloc_new w (.cells (opKinds.map strV).toArray 9)
  generalize w.alloc (.cells (opKinds.map strV).toArray 9) = W1 at *
  obtain ⟨n, hn⟩ : ∃ n, n = w.heap.size := ⟨_, rfl⟩
  rw [← hn] at hrow ⊢
  have HB := Lib.hid hb
  have hc := strs_cell hrow j (by show j < 14; omega)
  rw [hka] at hc
  obtain ⟨s, hs⟩ : ∃ s : ByteArray, s = ⟨(W ++ 32 :: P).toArray⟩ := ⟨_, rfl⟩
  have hc2 : W1.cell? ⟨n, j, none⟩ = some (.string s) := by rw [hc, hs]; rfl
  have hsl : s.data.toList = W ++ 32 :: P := by rw [hs]
  have hsz : s.size = W.length + 1 + P.length := by
    have h1 : s.data.toList.length = s.size := Array.length_toList
    rw [← h1, hsl]
    simp
    omega
  have hat : ∀ (i : Nat) (h : i < s.size), s.data.toList[i]? = some (s[i]'h) := fun i h => by
    rw [Array.getElem?_toList]
    exact Array.getElem?_eq_getElem h
  have HAT := Lib.hid hat
  have HSL := Lib.hid hsl
  have HSZ := Lib.hid hsz
  have HCL := Lib.hid hcl
  have hsm : s.size ≤ 201 := by omega
  clear hb hn hrow hc hs hka hsl hsz hat hcl
  go_wp2_with fail
  go_loopw [5] (fun i wr => ∃ k : Nat, k ≤ W.length ∧ i = .int .i64 k ∧ wr = W1) (fun i _ => W.length - (intOf i).toNat)
  case atStart => exact ⟨0, by omega, rfl, rfl⟩
  case round =>
    obtain ⟨k, hk, rfl, rfl⟩ := hrel
    have hlt : k < s.size := by rw [HSZ.out]; omega
    have h1 := HAT.out k hlt
    rw [HSL.out] at h1
    by_cases hkw : k < W.length
    · rw [List.getElem?_append_left hkw] at h1
      have hne : (s[k]'hlt).toNat ≠ 32 := HCL.out _ (List.mem_of_getElem? h1)
      have hd1 : (((s[k]'hlt).toNat : Int) == 32) = false := beq_false_of_ne (by omega)
      have hd2 : decide (((s[k]'hlt).toNat : Int) = 32) = false := decide_eq_false (by omega)
      have HKW := Lib.hid hkw
      clear h1 hne hk hkw
      go_wp2_with fail
      go_roundw
      case rel => exact ⟨k + 1, HKW.out, by go_num, by trivial⟩
      case measure => simp [intOf]; have := HKW.out; omega
    · have he : k = W.length := by omega
      rw [List.getElem?_append_right (by omega), show k - W.length = 0 by omega] at h1
      have hb32 : (s[k]'hlt).toNat = 32 := by
        have := Option.some.inj h1
        rw [← this]
        rfl
      have hd1 : (((s[k]'hlt).toNat : Int) == 32) = true := by rw [hb32]; rfl
      have hd2 : decide (((s[k]'hlt).toNat : Int) = 32) = true := by rw [hb32]; rfl
      have hw1 : IntKind.i64.wrap ((k : Int) + 1) = (k : Int) + 1 := by rw [IntKind.wrap_i64]; omega
      have hle : k ≤ s.size := by omega
      have hle1 : k + 1 ≤ s.size := by omega
      have hp0 : 0 ≤ (k : Int) + 1 := by omega
      have hpn : ((k : Int) + 1).toNat = k + 1 := by omega
      have hple : (k : Int) + 1 ≤ (s.size : Int) := by omega
      have HE := Lib.hid he
      clear h1 hb32 hk hkw he
      go_wp2_with fail
      go_quiet (fail)
      go_wp2_with fail
      go_ret2
      have e1 : (s.extract 0 k).data.toList = W := by rw [Lib.extract_from_zero, HSL.out, HE.out]; simp
      have e2 : (s.extract (k + 1) s.size).data.toList = P := by rw [Lib.extract_to_end, HSL.out, HE.out]; simp
      exact ⟨by rw [mk_eq e1, mk_eq e2]; rfl, bdn HB.out _⟩

def hasB (l : List UInt8) (c : Nat) : Bool := l.any fun b => b.toNat == c

theorem has_step (l : List UInt8) (k c : Nat) (h : k < l.length) (h1 : ∀ j, j < k → ∀ b, l[j]? = some b → b.toNat ≠ c) (b : UInt8) (hb : l[k]? = some b) (hne : b.toNat ≠ c) : ∀ j, j < k + 1 → ∀ b, l[j]? = some b → b.toNat ≠ c := fun j hj x hx => by
  rcases Nat.lt_or_ge j k with h' | h'
  · exact h1 j h' x hx
  · have : j = k := by omega
    subst this
    rw [hb] at hx
    cases hx
    exact hne

set_option maxRecDepth 100000 in
theorem has_any (s : ByteArray) (c : Nat) (hs : s.size ≤ 9223372036854775807) (w : World) : Calls Tryz.prog 20 #[.string s, .int .u8 c] w fun e w' => e = .returned (.bool (hasB s.data.toList c)) ∧ w' = w := by
  obtain ⟨x, hx⟩ : ∃ x, x = hasB s.data.toList c := ⟨_, rfl⟩
  rw [← hx]
  have hlen : s.data.toList.length = s.size := Array.length_toList
  have hat : ∀ (i : Nat) (h : i < s.size), s.data.toList[i]? = some (s[i]'h) := fun i h => by
    rw [Array.getElem?_toList]
    exact Array.getElem?_eq_getElem h
  have HX := Lib.hid hx
  have HAT := Lib.hid hat
  have HL := Lib.hid hlen
  clear hx hat hlen
  go_enter Tryz.func20, Tryz.ntmps20
  go_wp2_with fail
  go_loopw [5] (fun i wr => ∃ k : Nat, k ≤ s.size ∧ i = .int .i64 k ∧ wr = w ∧ Hid (∀ j, j < k → ∀ b, s.data.toList[j]? = some b → b.toNat ≠ c)) (fun i _ => s.size - (intOf i).toNat)
  case atStart => exact ⟨0, by omega, rfl, rfl, Lib.hid fun j h => absurd h (Nat.not_lt_zero j)⟩
  case round =>
    obtain ⟨k, hk, rfl, rfl, hr⟩ := hrel
    by_cases hlt : k < s.size
    · by_cases he : (s[k]'hlt).toNat = c
      · have hd1 : (((s[k]'hlt).toNat : Int) == (c : Int)) = true := beq_iff_eq.2 (by omega)
        have hd2 : decide (((s[k]'hlt).toNat : Int) = (c : Int)) = true := decide_eq_true (by omega)
        have hxt : x = true := by
          rw [HX.out]
          exact List.any_eq_true.2 ⟨_, List.mem_of_getElem? (HAT.out k hlt), beq_iff_eq.2 he⟩
        subst hxt
        clear he hk
        go_wp2_with fail
        go_ret
        exact ⟨rfl, rfl⟩
      · have hd1 : (((s[k]'hlt).toNat : Int) == (c : Int)) = false := beq_false_of_ne (by omega)
        have hd2 : decide (((s[k]'hlt).toNat : Int) = (c : Int)) = false := decide_eq_false (by omega)
        have HN := Lib.hid (has_step s.data.toList k c (by rw [HL.out]; exact hlt) hr.out _ (HAT.out k hlt) he)
        clear he hk hr
        go_wp2_with fail
        go_roundw
        case rel => exact ⟨k + 1, by omega, by go_num, by trivial, HN⟩
        case measure => simp [intOf]; try omega
    · have hxf : x = false := by
        rw [HX.out]
        refine Bool.eq_false_iff.2 fun ha => ?_
        obtain ⟨b, hb, hbc⟩ := List.any_eq_true.1 ha
        obtain ⟨j, hj⟩ := List.getElem?_of_mem hb
        have hjl : j < s.data.toList.length := (List.getElem?_eq_some_iff.1 hj).1
        exact hr.out j (by have := HL.out; omega) b hj (beq_iff_eq.1 hbc)
      subst hxf
      have e2 : k = s.size := by omega
      subst e2
      clear hr hlt hk
      go_wp2_with fail
      go_ret
      exact ⟨rfl, rfl⟩
end Go.Proofs.YtminfdlhbecnhaaGreatDoor
