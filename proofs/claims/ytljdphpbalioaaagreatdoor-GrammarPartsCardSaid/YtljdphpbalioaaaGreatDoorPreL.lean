/- Merged: token/TkRefA token/TkRefB token/TkVal. -/
import Derived.Test.YtljdphpbalioaaaGreatDoorPreK
import Derived.Test.YtljdphpbalioaaaGreatDoorPreA
import Derived.Deep.CutBlock
/- Walks: the document's in, Signs, Number. -/
namespace Go.Proofs.YtljdphpbalioaaaGreatDoor
open Go.RowKit

theorem in_step {ls : List (List UInt8)} {T : List UInt8} {k : Nat} (h : ∀ j, j < k → ls.getD j [] ≠ T) (he : ls.getD k [] ≠ T) : ∀ j, j < k + 1 → ls.getD j [] ≠ T := fun j hj => by
  rcases Nat.lt_or_ge j k with h' | h'
  · exact h j h'
  · have : j = k := by omega
    subst this
    exact he

/-- the document's number: its value; below 0: it is none -/
def numOf8 (l : List UInt8) : Int := if numB l then (valOf l : Int) else -1

theorem val_lt (l : List UInt8) : (∀ b ∈ l, digN b.toNat = true) → valOf l < 10 ^ l.length := by
  suffices ∀ n (l : List UInt8), l.length = n → (∀ b ∈ l, digN b.toNat = true) → valOf l < 10 ^ n from this l.length l rfl
  intro n
  induction n with
  | zero => intro l h _; rw [List.eq_nil_of_length_eq_zero h]; decide
  | succ n ih =>
    intro l h hd
    obtain ⟨m, b, rfl⟩ := snoc_cases l (by intro e; rw [e] at h; simp at h)
    have h1 := ih m (by simpa using h) (fun c hc => hd c (by simp [hc]))
    obtain ⟨_, h2⟩ := (digN_iff b).1 (hd b (by simp))
    rw [val_snoc, Nat.pow_succ]
    omega

theorem class_digit (n : Nat) : classOf n = 2 ↔ digN n = true := by
  have hx : digN n = true → letN n = false := by
    unfold digN letN
    simp only [Bool.and_eq_true, Bool.or_eq_false_iff, Bool.and_eq_false_iff, decide_eq_true_eq, decide_eq_false_iff_not]
    omega
  unfold classOf
  cases hd : digN n
  · cases letN n <;> simp
    split <;> simp
  · rw [hx hd]; simp

end Go.Proofs.YtljdphpbalioaaaGreatDoor
/- Walk: the document's tokens of a text. -/
namespace Go.Proofs.YtljdphpbalioaaaGreatDoor
open Go.RowKit

theorem class_le (n : Nat) : classOf n ≤ 3 := by
  unfold classOf
  split
  · omega
  · split
    · omega
    · split <;> omega

theorem part_class (n : Nat) : partN n = true ↔ classOf n = 1 ∨ classOf n = 2 := (class_two n).symm

theorem rows_cells {w : World} {n e : Nat} {ls : List (List UInt8)} (h : w.heap[n]? = some (.cells (ls.map strV).toArray e (0, 0))) : ∀ j, j < ls.length → w.cell? ⟨n, j, none⟩ = some (strV (ls.getD j [])) := fun j hj => strs_cell h j hj

theorem ext_mk (s : ByteArray) (i k : Nat) (T : List UInt8) (h : (s.data.toList.drop i).take (k - i) = T) : s.extract i k = mk8 T := by
  have h1 := mid_bytes s i k
  rw [h] at h1
  have h3 := mk_eq h1
  rw [strV_mk] at h3
  exact Value.string.inj h3

end Go.Proofs.YtljdphpbalioaaaGreatDoor
/- Walks: a text's beginning; the value of a token; what tokens are. -/
namespace Go.Proofs.YtljdphpbalioaaaGreatDoor
open Go.RowKit

def firstOf (s : ByteArray) (k : Nat) : ByteArray := s.extract 0 (min s.size k)
theorem first_size (s : ByteArray) (k : Nat) : (firstOf s k).size ≤ k := by
  unfold firstOf
  rw [ByteArray.size_extract]
  omega

set_option maxRecDepth 10000 in
theorem text_any (s : ByteArray) (k : Nat) (w : World) (hs : s.size ≤ 9223372036854775807) (hk : k ≤ 1000000) :
    Calls Tryz.prog 5 #[.string s, .int .i64 k] w fun e w' => e = .returned (.string (firstOf s k)) ∧ w' = w := by
  go_enter Tryz.func5, Tryz.ntmps5
  go_wp2_with (with_reducible refine wpList_min rfl _ _ _ rfl _ _ _ rfl rfl ?_; intro r hr; have hr2 : 0 ≤ r ∧ r ≤ (s.size : Int) := (by have := hr.out; split at this <;> omega); have hr3 : r.toNat = min s.size k := (by have := hr.out; split at this <;> omega))
  go_ret
  refine ⟨?_, rfl⟩
  unfold firstOf
  rw [← hr3]
  rfl

/-- what each token of a text is -/
theorem toks_mem : ∀ (f i : Nat) (l : List UInt8) (ts : List Tok), toks f i l = some ts → ∀ t ∈ ts, ∃ r, r ≠ [] ∧ t.kind = (tokAt r).1 ∧ t.text = r.take (tokAt r).2 ∧ (tokAt r).1 ≠ 0 := by
  intro f
  induction f with
  | zero => intro i l ts h; cases h
  | succ f ih =>
    intro i l ts h t ht
    cases l with
    | nil => cases h; simp at ht
    | cons b r =>
      rw [toks] at h
      split at h
      · exact ih _ _ _ h t ht
      · split at h
        · exact ih _ _ _ h t ht
        · split at h
          · cases h
          · next h3 =>
            cases hq : toks f (i + (tokAt (b :: r)).2) ((b :: r).drop (tokAt (b :: r)).2) with
            | none => rw [hq] at h; cases h
            | some ts' =>
              rw [hq] at h
              cases h
              rcases List.mem_cons.1 ht with rfl | ht
              · exact ⟨b :: r, by simp, rfl, rfl, h3⟩
              · exact ih _ _ _ hq t ht

theorem kind_two {r : List UInt8} (h : (tokAt r).1 = 2) : numB (r.take (tokAt r).2) = true ∧ (∀ b ∈ r.take (tokAt r).2, partN b.toNat = true) ∧ r.take (tokAt r).2 ≠ [] := by
  unfold tokAt at h ⊢
  by_cases hp : partN (r.getD 0 0).toNat = true
  · rw [if_pos hp] at h ⊢
    have hk : numB (r.take (runOf r)) = true := by
      unfold kindOf at h
      simp only at h
      split at h
      · cases h
      · split at h
        · cases h
        · split at h
          · next hn => exact hn
          · cases h
    refine ⟨hk, run_parts r, fun e => ?_⟩
    simp only at e
    rw [e] at hk
    cases hk
  · rw [if_neg hp] at h
    split at h
    · cases h
    · split at h <;> cases h

theorem kind_pos (r : List UInt8) : (tokAt r).1 < 5 := by
  unfold tokAt
  split
  · unfold kindOf; split
    · omega
    · split
      · omega
      · split <;> omega
  · split
    · omega
    · split <;> omega

theorem tok_len {l : List UInt8} {ts : List Tok} (h : toksOf l = some ts) : ∀ t ∈ ts, t.kind < 5 ∧ t.kind ≠ 0 ∧ t.text ≠ [] ∧ (t.kind = 2 → numB t.text = true ∧ ∀ b ∈ t.text, partN b.toNat = true) := fun t ht => by
  obtain ⟨r, h1, h2, h3, h4⟩ := toks_mem _ _ _ _ h t ht
  refine ⟨by rw [h2]; exact kind_pos r, by rw [h2]; exact h4, ?_, fun hk => ?_⟩
  · rw [h3]
    cases r with
    | nil => exact absurd rfl h1
    | cons b r =>
      have := tok_pos h4
      intro e
      have h5 := congrArg List.length e
      rw [List.length_take, List.length_cons] at h5
      simp at h5
      omega
  · have := kind_two (by rw [← h2]; exact hk)
    rw [h3]
    exact ⟨this.1, this.2.1⟩

set_option maxRecDepth 100000 in
theorem value_no (k : Nat) (T : ByteArray) (i : Int) (hk : k ≠ 2) (w : World) : Calls Tryz.prog 67 #[.agg #[.int .u8 k, .string T, .int .i64 i]] w fun e w' => e = .returned (.int .i64 0) ∧ Below w.heap.size w w' := by
  have d1 : ((k : Int) != 2) = true := by simp; omega
  have d2 : decide ((k : Int) = 2) = false := decide_eq_false (by omega)
  have d3 : ((k : Int) == 2) = false := d2
  go_enter Tryz.func67, Tryz.ntmps67
  go_wp2_with fail
  go_ret
  exact ⟨rfl, bal (bre w) _⟩

set_option maxRecDepth 100000 in
theorem value_num (T : List UInt8) (i : Int) (hn : numB T = true) (hp : ∀ b ∈ T, partN b.toNat = true) (hs : T.length ≤ 281474976710656) (w : World) : Calls Tryz.prog 67 #[.agg #[.int .u8 2, .string (mk8 T), .int .i64 i]] w fun e w' => e = .returned (.int .i64 (valOf T)) ∧ Below w.heap.size w w' := by
  have hne : T ≠ [] := fun e => by rw [e] at hn; cases hn
  obtain ⟨v, hv, -⟩ := (num_prog T hne hp).1 hn
  have hval := num_val hne hp hv
  have HV := Lib.hid hval
  have HQ := Lib.hid hv
  have HS : Hid ((mk8 T).size ≤ 281474976710656) := Lib.hid (by rw [← str_len]; exact hs)
  clear hne hv hval hn hp hs
  go_enter Tryz.func67, Tryz.ntmps67
  go_upto_region 3 with fail
  have hb0 := bal (bre w) (.cells #[.int .u8 2, .string (mk8 T), .int .i64 i] 71)
  have hr0 := heap_alloc_new w (.cells #[.int .u8 2, .string (mk8 T), .int .i64 i] 71)
  generalize w.alloc (.cells #[.int .u8 2, .string (mk8 T), .int .i64 i] 71) = W0 at *
  obtain ⟨n1, hn1⟩ : ∃ n, n = w.heap.size := ⟨_, rfl⟩
  rw [← hn1] at hr0 ⊢
  have c1 := cell_of_row W0 n1 1 _ _ _ hr0
  have HB0 := Lib.hid hb0
  clear hb0 hr0 hn1
  go_wp2_with fail
  refine (pint_ok (mk8 T) HS.out v HQ.out W0).mono ?_
  rintro e w1 ⟨rfl, hb1⟩
  have HB1 := Lib.hid (btr HB0.out hb1)
  clear hb1
  go_wp2_with fail
  go_ret
  exact ⟨by rw [HV.out]; rfl, HB1.out⟩
end Go.Proofs.YtljdphpbalioaaaGreatDoor
