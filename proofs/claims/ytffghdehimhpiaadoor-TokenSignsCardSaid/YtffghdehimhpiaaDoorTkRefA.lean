/- Walks: the document's in, Signs, Number. -/
import Derived.Test.YtffghdehimhpiaaDoorTkAll
namespace Go.Proofs.YtffghdehimhpiaaDoor
open Go.RowKit

set_option maxRecDepth 100000 in
theorem rsigns_any (w : World) : Calls Tryd.prog 14 #[] w fun e w' => e = .returned (.slice (some ⟨w.heap.size, 0, none⟩) 22 22) ∧ w' = w.alloc (.cells (signRows.map strV).toArray 9) := by
  go_enter Tryd.func14, Tryd.ntmps14
  go_wp2_with fail
  go_ret
  exact ⟨rfl, rfl⟩

theorem in_step {ls : List (List UInt8)} {T : List UInt8} {k : Nat} (h : ∀ j, j < k → ls.getD j [] ≠ T) (he : ls.getD k [] ≠ T) : ∀ j, j < k + 1 → ls.getD j [] ≠ T := fun j hj => by
  rcases Nat.lt_or_ge j k with h' | h'
  · exact h j h'
  · have : j = k := by omega
    subst this
    exact he

set_option maxRecDepth 100000 in
theorem in_any (b m : Nat) (ls : List (List UInt8)) (T : List UInt8) (w : World) (hm : ls.length = m) (hs : m ≤ 1000) (hc : ∀ j, j < ls.length → w.cell? ⟨b, j, none⟩ = some (strV (ls.getD j []))) :
    Calls Tryd.prog 28 #[.slice (some ⟨b, 0, none⟩) m m, .string (mk8 T)] w fun e w' => e = .returned (.bool (ls.contains T)) ∧ w' = w := by
  obtain ⟨x, hx⟩ : ∃ x, x = ls.contains T := ⟨_, rfl⟩
  rw [← hx]
  have HX := Lib.hid hx
  have HC := Lib.hid hc
  have HM := Lib.hid hm
  clear hx hc hm
  go_enter Tryd.func28, Tryd.ntmps28
  go_wp2_with fail
  go_loopw [6, 9] (fun _ i wr => ∃ k : Nat, k ≤ m ∧ i = .int .i64 k ∧ wr = w ∧ Hid (∀ j, j < k → ls.getD j [] ≠ T)) (fun _ i _ => m - (intOf i).toNat)
  case atStart => exact ⟨0, by omega, rfl, rfl, Lib.hid fun j h => absurd h (Nat.not_lt_zero j)⟩
  case round =>
    obtain ⟨k, hk, rfl, rfl, hr⟩ := hrel
    by_cases hlt : k < m
    · have hcell := HC.out k (by rw [HM.out]; exact hlt)
      rw [strV_mk] at hcell
      have hmem : ls.getD k [] ∈ ls := by
        rw [List.getD_eq_getElem?_getD, List.getElem?_eq_getElem (by rw [HM.out]; exact hlt)]
        exact List.getElem_mem _
      obtain ⟨y, hy⟩ : ∃ y, y = ls.getD k [] := ⟨_, rfl⟩
      rw [← hy] at hcell hmem
      by_cases he : y = T
      · have hr2 : x = true := by rw [HX.out, List.contains_iff_mem, ← he]; exact hmem
        subst hr2
        have d1 : ((mk8 y).toList == (mk8 T).toList) = true := by rw [mk8_list, mk8_list, he]; simp
        clear he hy hr hk hmem
        go_wp2_with fail
        go_ret
        exact ⟨rfl, rfl⟩
      · have d1 : ((mk8 y).toList == (mk8 T).toList) = false := by rw [mk8_list, mk8_list]; exact beq_false_of_ne he
        have HN := Lib.hid (in_step hr.out (by rw [← hy]; exact he))
        clear he hy hr hk hmem
        go_wp2_with fail
        go_roundw
        case rel => exact ⟨k + 1, by omega, by go_num, by trivial, HN⟩
        case measure => simp [intOf]; try omega
    · have e2 : k = m := by omega
      have hr2 : x = false := by
        rw [HX.out]
        refine Bool.eq_false_iff.2 fun h => ?_
        rw [List.contains_iff_mem] at h
        obtain ⟨j, hj⟩ := List.getElem?_of_mem h
        have hjl := (List.getElem?_eq_some_iff.1 hj).1
        refine hr.out j (by have := HM.out; omega) ?_
        rw [List.getD_eq_getElem?_getD, hj]
        rfl
      subst hr2
      subst e2
      clear hr hlt hk
      go_wp2_with fail
      go_ret
      exact ⟨rfl, rfl⟩

/-- the document's number: its value; below 0: it is none -/
def numOf8 (l : List UInt8) : Int := if numB l then (valOf l : Int) else -1

theorem val_lt (l : List UInt8) : (∀ b ∈ l, digN b.toNat = true) → valOf l < 10 ^ l.length := by
  suffices ∀ n (l : List UInt8), l.length = n → (∀ b ∈ l, digN b.toNat = true) → valOf l < 10 ^ n from this l.length l rfl
  intro n
  induction n with
  | zero => intro l h _; rw [List.eq_nil_of_length_eq_zero h]; decide
  | succ n ih =>
    intro l h hd
    obtain ⟨m, b, rfl⟩ := snoc_cases l (by intro e; rw [e] at h; simp at h)
    have h1 := ih m (by simpa using h) (fun c hc => hd c (by simp [hc]))
    obtain ⟨_, h2⟩ := (digN_iff b).1 (hd b (by simp))
    rw [val_snoc, Nat.pow_succ]
    omega

theorem class_digit (n : Nat) : classOf n = 2 ↔ digN n = true := by
  have hx : digN n = true → letN n = false := by
    unfold digN letN
    simp only [Bool.and_eq_true, Bool.or_eq_false_iff, Bool.and_eq_false_iff, decide_eq_true_eq, decide_eq_false_iff_not]
    omega
  unfold classOf
  cases hd : digN n
  · cases letN n <;> simp
    split <;> simp
  · rw [hx hd]; simp

set_option maxRecDepth 100000 in
set_option maxHeartbeats 1600000 in
theorem rnumber_any (s : ByteArray) (hs : s.size ≤ 281474976710656) (w : World) : Calls Tryd.prog 13 #[.string s] w fun e w' => e = .returned (.int .i64 (numOf8 s.data.toList)) ∧ w' = w := by
  obtain ⟨x, hx⟩ : ∃ x, x = numOf8 s.data.toList := ⟨_, rfl⟩
  rw [← hx]
  have HX := Lib.hid hx
  clear hx
  have hsl := str_len s
  have hbad : (1 ≤ s.size → s.size ≤ 19 → ((s.size = 1) ∨ (s.data.toList.getD 0 0).toNat ≠ 48) → False) → x = -1 := fun h => by
    rw [HX.out]
    unfold numOf8
    rw [if_neg]
    intro hn
    unfold numB at hn
    simp only [Bool.and_eq_true, Bool.or_eq_true, decide_eq_true_eq, bne_iff_ne, hsl] at hn
    exact h hn.1.1.1.1 hn.1.1.1.2 hn.1.1.2
  by_cases h0 : s.size = 0
  · have hr := hbad (fun h => by omega)
    subst hr
    have d1 : decide ((s.size : Int) < 1) = true := decide_eq_true (by omega)
    clear hbad h0 hs hsl
    go_enter Tryd.func13, Tryd.ntmps13
    go_wp2_with fail
    go_ret
    exact ⟨rfl, rfl⟩
  have d1 : decide ((s.size : Int) < 1) = false := decide_eq_false (by omega)
  have hpos : 0 < s.size := by omega
  by_cases h19 : 19 < s.size
  · have hr := hbad (fun _ h => by omega)
    subst hr
    have d2 : decide ((19 : Int) < s.size) = true := decide_eq_true (by omega)
    clear hbad h0 hs hsl h19
    go_enter Tryd.func13, Tryd.ntmps13
    go_wp2_with fail
    go_ret
    exact ⟨rfl, rfl⟩
  have d2 : decide ((19 : Int) < s.size) = false := decide_eq_false (by omega)
  have hg0 : s.data.toList.getD 0 0 = s[0]'hpos := by rw [List.getD_eq_getElem?_getD, str_at s 0 hpos]; rfl
  by_cases hz : (s[0]'hpos).toNat = 48 ∧ 1 < s.size
  · have hr := hbad (fun _ _ h => by rw [hg0] at h; rcases h with h | h <;> omega)
    subst hr
    have d3 : (((s[0]'hpos).toNat : Int) == 48) = true := by rw [hz.1]; rfl
    have d4 : decide ((1 : Int) < s.size) = true := decide_eq_true (by omega)
    have d4n : decide (1 < s.size) = true := decide_eq_true hz.2
    clear hbad h0 hs hsl h19 hz hg0
    go_enter Tryd.func13, Tryd.ntmps13
    go_wp2_with fail
    go_ret
    exact ⟨rfl, rfl⟩
  have HOK : Hid (s.size = 1 ∨ (s.data.toList.getD 0 0).toNat ≠ 48) := Lib.hid (by rw [hg0]; omega)
  have H19 : Hid (1 ≤ s.size ∧ s.size ≤ 19) := Lib.hid (by omega)
  have h19s : s.size ≤ 19 := by omega
  have hf : ∃ b c : Bool, ((((s[0]'hpos).toNat : Int) == 48) = b) ∧ decide ((1 : Int) < s.size) = c ∧ decide (1 < s.size) = c ∧ (b = false ∨ (b = true ∧ c = false)) := by
    by_cases h48 : (s[0]'hpos).toNat = 48
    · exact ⟨true, false, by rw [h48]; rfl, decide_eq_false (by omega), decide_eq_false (by omega), .inr ⟨rfl, rfl⟩⟩
    · exact ⟨false, decide (1 < s.size), beq_false_of_ne (by omega), by rw [Bool.eq_iff_iff, decide_eq_true_iff, decide_eq_true_iff]; omega, rfl, .inl rfl⟩
  obtain ⟨b0, c0, d3, d4, d4n, hbc⟩ := hf
  clear hbad h0 hs hsl h19 hz hg0
  rcases hbc with rfl | ⟨rfl, rfl⟩
  all_goals
    go_enter Tryd.func13, Tryd.ntmps13
    go_wp2_with fail
    clear d1 d2 d3 d4 d4n
    go_loopw [3, 4] (fun v i wr => ∃ k : Nat, k ≤ s.size ∧ i = .int .i64 k ∧ v = .int .u64 (valOf (s.data.toList.take k)) ∧ wr = w ∧ Hid (∀ b ∈ s.data.toList.take k, digN b.toNat = true)) (fun _ i _ => s.size - (intOf i).toNat)
    case atStart => exact ⟨0, by omega, rfl, rfl, rfl, Lib.hid fun b hb => by simp at hb⟩
    case round =>
      obtain ⟨k, hk, rfl, rfl, rfl, hr⟩ := hrel
      obtain ⟨N, hN⟩ : ∃ N, N = valOf (s.data.toList.take k) := ⟨_, rfl⟩
      rw [← hN]
      have HNN := Lib.hid hN
      by_cases hlt : k < s.size
      · have hta : s.data.toList.take (k + 1) = s.data.toList.take k ++ [s[k]'hlt] := by
          rw [List.take_succ_eq_append_getElem (by rw [str_len]; exact hlt), str_get s k hlt]
        have HTA := Lib.hid hta
        obtain ⟨c, hc⟩ : ∃ c, c = classOf (s[k]'hlt).toNat := ⟨_, rfl⟩
        have HC := Lib.hid hc
        by_cases hd : digN (s[k]'hlt).toNat = true
        · have hc2 : c = 2 := by rw [hc]; exact (class_digit _).2 hd
          obtain ⟨b1, b2⟩ := (digN_iff (s[k]'hlt)).1 hd
          have hb : N < 10 ^ k := by
            have := val_lt _ hr.out
            rw [← hN, List.length_take, str_len, Nat.min_eq_left (by omega)] at this
            exact this
          have hp : (10 : Nat) ^ k ≤ 10 ^ 18 := Nat.pow_le_pow_right (by omega) (by omega)
          have hp2 : (10 : Nat) ^ 18 = 1000000000000000000 := rfl
          have hw1 : IntKind.u64.wrap (10 * (N : Int)) = 10 * (N : Int) := by rw [IntKind.wrap_u64]; omega
          have hw0 : IntKind.u8.wrap (((s[k]'hlt).toNat : Int) - 48) = ((s[k]'hlt).toNat : Int) - 48 := by rw [IntKind.wrap_u8]; omega
          have hw3 : IntKind.u64.wrap (((s[k]'hlt).toNat : Int) - 48) = ((s[k]'hlt).toNat : Int) - 48 := by rw [IntKind.wrap_u64]; omega
          have hw2 : IntKind.u64.wrap (10 * (N : Int) + (((s[k]'hlt).toNat : Int) - 48)) = 10 * (N : Int) + (((s[k]'hlt).toNat : Int) - 48) := by rw [IntKind.wrap_u64]; omega
          have HV : Hid (10 * (N : Int) + (((s[k]'hlt).toNat : Int) - 48) = ((valOf (s.data.toList.take (k + 1)) : Nat) : Int)) := Lib.hid (by rw [hta, val_snoc, ← hN]; omega)
          have HN' : Hid (∀ b ∈ s.data.toList.take (k + 1), digN b.toNat = true) := Lib.hid fun b hb => by
            rw [hta] at hb
            rcases List.mem_append.1 hb with h | h
            · exact hr.out b h
            · have : b = s[k]'hlt := by simpa using h
              rw [this]; exact hd
          subst hc2
          clear hr hd hb hp hp2 hN hta hc b1 b2
          go_wp2_with fail
          refine (class_any _ _).mono ?_
          rintro e w1 ⟨rfl, hw⟩
          have hw' := hw.symm
          subst hw'
          clear hw
          rw [← HC.out]
          go_wp2_with fail
          go_roundw
          case rel => exact ⟨k + 1, by omega, by go_num, by rw [HV.out], by trivial, HN'⟩
          case measure => simp [intOf]; try omega
        · have hc2 : c ≠ 2 := by rw [hc]; exact fun h => hd ((class_digit _).1 h)
          have hx2 : x = -1 := by
            rw [HX.out]
            unfold numOf8
            rw [if_neg]
            intro hn
            unfold numB at hn
            simp only [Bool.and_eq_true] at hn
            exact hd (List.all_eq_true.1 hn.1.2 _ (List.mem_of_getElem? (str_at s k hlt)))
          subst hx2
          have e1 : ((c : Int) != 2) = true := by simp; omega
          have e2 : decide ((c : Int) = 2) = false := decide_eq_false (by omega)
          have e3 : ((c : Int) == 2) = false := e2
          clear hr hd hN hta hc hc2 hk
          go_wp2_with fail
          refine (class_any _ _).mono ?_
          rintro e w1 ⟨rfl, hw⟩
          have hw' := hw.symm
          subst hw'
          clear hw
          rw [← HC.out]
          go_wp2_with fail
          go_ret
          exact ⟨rfl, rfl⟩
      · have ek : k = s.size := by omega
        have hta : s.data.toList.take k = s.data.toList := List.take_of_length_le (by rw [str_len]; omega)
        have hall := hr.out
        rw [hta] at hall hN
        have hnb : numB s.data.toList = decide (valOf s.data.toList ≤ 9223372036854775807) := by
          unfold numB
          have h1 : decide (1 ≤ s.data.toList.length) = true := decide_eq_true (by rw [str_len]; exact H19.out.1)
          have h2 : decide (s.data.toList.length ≤ 19) = true := decide_eq_true (by rw [str_len]; exact H19.out.2)
          have h3 : (decide (s.data.toList.length = 1) || (s.data.toList.getD 0 0).toNat != 48) = true := by
            rw [Bool.or_eq_true, decide_eq_true_iff, bne_iff_ne, str_len]; exact HOK.out
          have h4 : s.data.toList.all (fun b => digN b.toNat) = true := List.all_eq_true.2 hall
          rw [h1, h2, h3, h4]
          rfl
        by_cases hbig : 9223372036854775807 < N
        · have hx2 : x = -1 := by
            rw [HX.out]
            unfold numOf8
            rw [hnb, ← hN, decide_eq_false (by omega)]
            rfl
          subst hx2
          have e1 : decide ((9223372036854775807 : Int) < N) = true := decide_eq_true (by omega)
          clear hr hN hta hall hnb hbig hlt hk
          subst ek
          go_wp2_with fail
          go_ret
          exact ⟨rfl, rfl⟩
        · have hx2 : x = (N : Int) := by
            rw [HX.out]
            unfold numOf8
            rw [hnb, ← hN, decide_eq_true (by omega)]
            rfl
          have HX2 := Lib.hid hx2
          have e1 : decide ((9223372036854775807 : Int) < N) = false := decide_eq_false (by omega)
          have hw1 : IntKind.i64.wrap (N : Int) = (N : Int) := by rw [IntKind.wrap_i64]; omega
          clear hr hN hta hall hnb hbig hlt hk hx2
          subst ek
          go_wp2_with fail
          go_ret
          exact ⟨by rw [HX2.out]; rfl, rfl⟩
end Go.Proofs.YtffghdehimhpiaaDoor
