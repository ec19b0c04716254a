/- Walks: the document's Name, Right; own. -/
import Derived.Test.YtminfdlhbecnhaaGreatDoorOpRef
import Derived.Test.YtminfdlhbecnhaaGreatDoorClass8
import Derived.Test.YtminfdlhbecnhaaGreatDoorOpRight
namespace Go.Proofs.YtminfdlhbecnhaaGreatDoor
open Go.RowKit

theorem class_one (n : Nat) : (classOf n = 1) ↔ letN n = true := by
  unfold classOf
  cases letN n <;> simp
  split
  · simp
  · split <;> simp

theorem class_two (n : Nat) : (classOf n = 1 ∨ classOf n = 2) ↔ (letN n || digN n) = true := by
  unfold classOf
  cases letN n <;> cases digN n <;> simp
  split <;> simp

set_option maxRecDepth 10000 in
set_option maxHeartbeats 1600000 in
theorem rname8_any (s : ByteArray) (w : World) (hs : s.size ≤ 9223372036854775807) : Calls Tryz.prog 45 #[.string s] w fun e w' => e = .returned (.bool (shapedB s.data.toList)) ∧ w' = w := by
  obtain ⟨x, hx⟩ : ∃ x, x = shapedB s.data.toList := ⟨_, rfl⟩
  rw [← hx]
  have HX := Lib.hid hx
  clear hx
  by_cases h0 : s.size = 0
  · have hr : x = false := by
      rw [HX.out]
      unfold shapedB
      have : s.data.toList = [] := List.eq_nil_of_length_eq_zero (by rw [str_len]; exact h0)
      rw [this]
      rfl
    subst hr
    have hd : decide ((s.size : Int) < 1) = true := decide_eq_true (by omega)
    clear h0 hs
    go_enter Tryz.func45, Tryz.ntmps45
    go_wp2_with fail
    go_ret
    exact ⟨rfl, rfl⟩
  have hpos : 0 < s.size := by omega
  have hd1 : decide ((s.size : Int) < 1) = false := decide_eq_false (by omega)
  by_cases h64 : 64 < s.size
  · have hd : decide ((64 : Int) < s.size) = true := decide_eq_true (by omega)
    have hr : x = false := by
      rw [HX.out]
      unfold shapedB
      have : decide (s.data.toList.length ≤ 64) = false := decide_eq_false (by rw [str_len]; omega)
      rw [this]
      simp
    subst hr
    clear h0 hs
    go_enter Tryz.func45, Tryz.ntmps45
    go_wp2_with fail
    go_ret
    exact ⟨rfl, rfl⟩
  have hd : decide ((64 : Int) < s.size) = false := decide_eq_false (by omega)
  have H64 : Hid (s.size ≤ 64) := Lib.hid (by omega)
  have h64s : s.size ≤ 64 := by omega
  clear h0 h64 hs
  go_enter Tryz.func45, Tryz.ntmps45
  go_wp2_with fail
  refine (class_any _ w).mono ?_
  rintro e w1 ⟨rfl, hw⟩
  have hw' := hw.symm
  subst hw'
  clear hw
  obtain ⟨c0, hc0⟩ : ∃ c, c = classOf (s[0]'hpos).toNat := ⟨_, rfl⟩
  rw [← hc0]
  have hc1 := class_one (s[0]'hpos).toNat
  rw [← hc0] at hc1
  by_cases h1 : c0 = 1
  rotate_left
  · have hr : x = false := by
      rw [HX.out]
      unfold shapedB
      have e3 : s.data.toList.getD 0 0 = s[0]'hpos := by rw [List.getD_eq_getElem?_getD, str_at s 0 hpos]; rfl
      have e4 : letN (s[0]'hpos).toNat = false := by
        cases h : letN (s[0]'hpos).toNat
        · rfl
        · exact absurd (hc1.2 h) h1
      rw [e3, e4]
      simp
    subst hr
    have d1 : ((c0 : Int) != 1) = true := by simp; omega
    have d2 : decide ((c0 : Int) = 1) = false := decide_eq_false (by omega)
    have d3 : ((c0 : Int) == 1) = false := d2
    clear hc0 hc1 h1
    go_wp2_with fail
    go_ret
    exact ⟨rfl, rfl⟩
  have HLT := Lib.hid (hc1.1 h1)
  clear hc0 hc1
  have d1 : ((c0 : Int) != 1) = false := by simp; omega
  have d2 : decide ((c0 : Int) = 1) = true := decide_eq_true (by omega)
  have d3 : ((c0 : Int) == 1) = true := d2
  clear h1
  go_wp2_with fail
  clear d1 d2 d3
  go_loopw [3, 4] (fun i _ wr => ∃ k : Nat, k ≤ s.size ∧ i = .int .i64 k ∧ wr = w ∧ Hid (∀ j (h : j < s.size), j < k → (letN (s[j]'h).toNat || digN (s[j]'h).toNat) = true)) (fun i _ _ => s.size - (intOf i).toNat)
  case atStart => exact ⟨0, by omega, rfl, rfl, Lib.hid fun j _ h => absurd h (Nat.not_lt_zero j)⟩
  case round =>
    obtain ⟨k, hk, rfl, rfl, hr⟩ := hrel
    by_cases hlt : k < s.size
    · obtain ⟨c, hc⟩ : ∃ c, c = classOf (s[k]'hlt).toNat := ⟨_, rfl⟩
      have HC := Lib.hid hc
      have hc2 := class_two (s[k]'hlt).toNat
      rw [← hc] at hc2
      by_cases hg : c = 1 ∨ c = 2
      · have hb := hc2.1 hg
        have HN : Hid (∀ j (h : j < s.size), j < k + 1 → (letN (s[j]'h).toNat || digN (s[j]'h).toNat) = true) := Lib.hid fun j h hj => by
          rcases Nat.lt_or_ge j k with h' | h'
          · exact hr.out j h h'
          · have : j = k := by omega
            subst this
            exact hb
        clear hr hb hc2 hc
        rcases hg with rfl | rfl
        all_goals
          go_wp2_with fail
          refine (class_any _ _).mono ?_
          rintro e w1 ⟨rfl, hw⟩
          have hw' := hw.symm
          subst hw'
          clear hw
          rw [← HC.out]
          go_wp2_with fail
          go_roundw
          case rel => exact ⟨k + 1, by omega, by go_num, by trivial, HN⟩
          case measure => simp [intOf]; try omega
      · have hb : (letN (s[k]'hlt).toNat || digN (s[k]'hlt).toNat) = false := by
          cases h : (letN (s[k]'hlt).toNat || digN (s[k]'hlt).toNat)
          · rfl
          · exact absurd (hc2.2 h) hg
        have hr2 : x = false := by rw [HX.out]; exact shaped_not s k hlt hb
        subst hr2
        have d1 : ((c : Int) != 1) = true := by simp; omega
        have d2 : decide ((c : Int) = 1) = false := decide_eq_false (by omega)
        have d3 : ((c : Int) == 1) = false := d2
        have d4 : ((c : Int) != 2) = true := by simp; omega
        have d5 : decide ((c : Int) = 2) = false := decide_eq_false (by omega)
        have d6 : ((c : Int) == 2) = false := d5
        clear hr hb hc2 hc hg
        go_wp2_with fail
        refine (class_any _ _).mono ?_
        rintro e w1 ⟨rfl, hw⟩
        have hw' := hw.symm
        subst hw'
        clear hw
        rw [← HC.out]
        go_wp2_with fail
        go_ret
        exact ⟨rfl, rfl⟩
    · have e2 : k = s.size := by omega
      subst e2
      have hr2 : x = true := by rw [HX.out]; exact shaped_yes s hpos H64.out HLT.out fun j h => hr.out j h h
      subst hr2
      clear hr hlt hk
      go_wp2_with fail
      go_ret
      exact ⟨rfl, rfl⟩

set_option maxRecDepth 100000 in
theorem rwords_any (w : World) : Calls Tryz.prog 44 #[] w fun e w' => e = .returned (.slice (some ⟨w.heap.size, 0, none⟩) 14 14) ∧ w' = w.alloc (.cells (tokWords.map strV).toArray 9) := by
  go_enter Tryz.func44, Tryz.ntmps44
  go_wp2_with fail
  go_ret
  exact ⟨rfl, rfl⟩

theorem isword_iff (s : ByteArray) : isWordB s = true ↔ ∃ j, j < 14 ∧ mk8 (tokWords.getD j []) = s := by
  unfold isWordB Lib.containsS
  rw [decide_eq_true_iff, Lib.idxOfS_nonneg_iff]
  have hl : tokWords.length = 14 := rfl
  constructor
  · intro hm
    obtain ⟨l, hl', rfl⟩ := List.mem_map.1 hm
    obtain ⟨j, hj⟩ := List.getElem?_of_mem hl'
    have hlt := (List.getElem?_eq_some_iff.1 hj).1
    exact ⟨j, by omega, by rw [List.getD_eq_getElem?_getD, hj]; rfl⟩
  · rintro ⟨j, hj, rfl⟩
    have hm : tokWords.getD j [] ∈ tokWords := by
      rw [List.getD_eq_getElem?_getD, List.getElem?_eq_getElem (by omega)]
      exact List.getElem_mem _
    exact List.mem_map_of_mem hm

theorem str_toList_inj {y s : ByteArray} (h : y.toList = s.toList) : y = s := by
  rw [ByteArray.toList_eq, ByteArray.toList_eq] at h
  cases y; cases s
  simp at h
  rw [h]
theorem str_eq_beq {y s : ByteArray} (h : y = s) : (y.toList == s.toList) = true := by subst h; simp
theorem str_ne_beq {y s : ByteArray} (h : y ≠ s) : (y.toList == s.toList) = false := beq_false_of_ne fun e => h (str_toList_inj e)
theorem str_ne_dec {y s : ByteArray} (h : y ≠ s) : decide (y.toList = s.toList) = false := decide_eq_false fun e => h (str_toList_inj e)

set_option maxRecDepth 100000 in
set_option maxHeartbeats 1600000 in
theorem rname_any (s : ByteArray) (w : World) (hs : s.size ≤ 9223372036854775807) : Calls Tryz.prog 21 #[.string s] w fun e w' => e = .returned (.bool (nameB s)) ∧ Below w.heap.size w w' := by
  obtain ⟨x, hx⟩ : ∃ x, x = nameB s := ⟨_, rfl⟩
  rw [← hx]
  have HX := Lib.hid hx
  have HS := Lib.hid hs
  clear hx hs
  go_enter Tryz.func21, Tryz.ntmps21
  go_wp2_with fail
  refine (rwords_any w).mono ?_
  rintro e w1 ⟨rfl, rfl⟩
  have hb := bal (bre w) (.cells (tokWords.map strV).toArray 9)
  have hrow := heap_alloc_new w (.cells (tokWords.map strV).toArray 9)
  generalize w.alloc (.cells (tokWords.map strV).toArray 9) = W1 at *
  obtain ⟨n, hn⟩ : ∃ n, n = w.heap.size := ⟨_, rfl⟩
  rw [← hn] at hrow ⊢
  have HB := Lib.hid hb
  have HR := Lib.hid hrow
  clear hb hn hrow
  go_wp2_with fail
  go_loopw [4, 7] (fun _ i wr => ∃ k : Nat, k ≤ 14 ∧ i = .int .i64 k ∧ wr = W1 ∧ Hid (∀ j, j < k → mk8 (tokWords.getD j []) ≠ s)) (fun _ i _ => 14 - (intOf i).toNat)
  case atStart => exact ⟨0, by omega, rfl, rfl, Lib.hid fun j h => absurd h (Nat.not_lt_zero j)⟩
  case round =>
    obtain ⟨k, hk, rfl, rfl, hr⟩ := hrel
    by_cases hlt : k < 14
    · have hc := strs_cell HR.out k (by show k < 14; omega)
      rw [strV_mk] at hc
      obtain ⟨y, hy⟩ : ∃ y, y = mk8 (tokWords.getD k []) := ⟨_, rfl⟩
      rw [← hy] at hc
      by_cases he : y = s
      · have hx2 : x = false := by
          rw [HX.out]; unfold nameB
          rw [(isword_iff s).2 ⟨k, hlt, by rw [← hy]; exact he⟩]
          simp
        subst hx2
        have d1 := str_eq_beq he
        clear he hy hr hk
        go_wp2_with fail
        go_ret
        exact ⟨rfl, HB.out⟩
      · have d1 := str_ne_beq he
        have d2 := str_ne_dec he
        have HN : Hid (∀ j, j < k + 1 → mk8 (tokWords.getD j []) ≠ s) := Lib.hid fun j hj => by
          rcases Nat.lt_or_ge j k with h' | h'
          · exact hr.out j h'
          · have : j = k := by omega
            subst this
            rw [← hy]
            exact he
        clear he hy hr hk
        go_wp2_with fail
        go_roundw
        case rel => exact ⟨k + 1, by omega, by go_num, by trivial, HN⟩
        case measure => simp [intOf]; try omega
    · have e2 : k = 14 := by omega
      subst e2
      have hw : isWordB s = false := Bool.eq_false_iff.2 fun h => by
        obtain ⟨j, hj, he⟩ := (isword_iff s).1 h
        exact hr.out j hj he
      have HXX : Hid (x = shapedB s.data.toList) := Lib.hid (by rw [HX.out]; unfold nameB; rw [hw]; simp)
      clear hr hlt hk hw
      go_wp2_with fail
      refine (rname8_any s _ HS.out).mono ?_
      rintro e w2 ⟨rfl, hw⟩
      have hw' := hw.symm
      subst hw'
      clear hw
      go_wp2_with fail
      go_ret
      exact ⟨by rw [HXX.out]; rfl, HB.out⟩

set_option maxRecDepth 100000 in
theorem own_any (k a b : Nat) (nm : ByteArray) (w : World) : Calls Tryz.prog 8 #[.agg #[.int .u8 k, .int .u64 a, .int .u64 b, .string nm]] w fun e w' => e = .returned (.agg #[.int .u8 k, .int .u64 a, .int .u64 b, .string nm]) ∧ Below w.heap.size w w' := by
  go_enter Tryz.func8, Tryz.ntmps8
  go_wp2_with fail
  exact bodyPost_ret (v := .agg #[.int .u8 k, .int .u64 a, .int .u64 b, .string nm]) (by simp [results, Tryz.results8, go_sem]) rfl ⟨rfl, bal (bal (bre w) _) _⟩

end Go.Proofs.YtminfdlhbecnhaaGreatDoor
