/- Walks: the document's digits of a number; an operation in the document's words. -/
import Derived.Test.YtminfdlhbecnhaaGreatDoorOpRead
namespace Go.Proofs.YtminfdlhbecnhaaGreatDoor
open Go.RowKit

theorem dec_step (n : Nat) (h : ¬ n < 10) : Lib.decDigits n = Lib.decDigits (n / 10) ++ Lib.decDigits (n % 10) := by
  rw [Lib.decDigits, dif_neg h, Lib.decDigits_one (i := n % 10) (by omega)]

theorem mk8_app (x y : List UInt8) : mk8 x ++ mk8 y = mk8 (x ++ y) := by
  apply ByteArray.ext
  rw [ByteArray.data_append]
  unfold mk8
  simp

theorem dec_le : ∀ (k u : Nat), u < 10 ^ (k + 1) → (Lib.decDigits u).length ≤ k + 1 := by
  intro k
  induction k with
  | zero => intro u h; rw [Lib.decDigits_one (by simpa using h)]; simp
  | succ k ih =>
    intro u h
    by_cases h10 : u < 10
    · rw [Lib.decDigits_one h10]; simp
    · rw [dec_step u h10, Lib.decDigits_one (i := u % 10) (by omega), List.length_append]
      have := ih (u / 10) (by rw [Nat.pow_succ] at h; omega)
      simp only [List.length_cons, List.length_nil]
      omega
theorem dec_size (u : Nat) (h : u < 18446744073709551616) : (mk8 (Lib.decDigits u)).size ≤ 20 := by
  rw [← str_len]
  exact dec_le 19 u (by omega)

theorem dec_slice (n : Nat) (h : n < 10) : (ByteArray.mk #[48, 49, 50, 51, 52, 53, 54, 55, 56, 57]).extract n (n + 1) = mk8 (Lib.decDigits n) := by
  rw [Lib.decDigits_one h]
  rcases (by omega : n = 0 ∨ n = 1 ∨ n = 2 ∨ n = 3 ∨ n = 4 ∨ n = 5 ∨ n = 6 ∨ n = 7 ∨ n = 8 ∨ n = 9) with rfl | rfl | rfl | rfl | rfl | rfl | rfl | rfl | rfl | rfl <;> kernel_rfl

set_option maxRecDepth 100000 in
theorem rdec_any (n : Nat) (hn : n < 18446744073709551616) : ∀ (w : World), Calls Tryz.prog 41 #[.int .u64 n] w fun e w' => e = .returned (.string (mk8 (Lib.decDigits n))) ∧ w' = w := by
  induction n using Nat.strongRecOn with
  | _ n ih =>
    intro w
    by_cases h10 : n < 10
    · have d1 : decide ((n : Int) < 10) = true := decide_eq_true (by omega)
      have d2 : decide (n < 10) = true := decide_eq_true h10
      have hsl := dec_slice n h10
      have hw : IntKind.u64.wrap ((n : Int) + 1) = (n : Int) + 1 := by rw [IntKind.wrap_u64]; omega
      clear ih hn
      go_enter Tryz.func41, Tryz.ntmps41
      go_wp2_with fail
      go_ret
      exact ⟨rfl, rfl⟩
    · have d1 : decide ((n : Int) < 10) = false := decide_eq_false (by omega)
      have d2 : decide (n < 10) = false := decide_eq_false h10
      have hw1 : IntKind.u64.wrap ((n : Int) / 10) = ((n / 10 : Nat) : Int) := by rw [IntKind.wrap_u64]; omega
      have hw2 : IntKind.u64.wrap ((n : Int) % 10) = ((n % 10 : Nat) : Int) := by rw [IntKind.wrap_u64]; omega
      have H1 := Lib.hid (ih (n / 10) (by omega) (by omega))
      have H2 := Lib.hid (ih (n % 10) (by omega) (by omega))
      have HS := Lib.hid (show mk8 (Lib.decDigits n) = mk8 (Lib.decDigits (n / 10)) ++ mk8 (Lib.decDigits (n % 10)) by rw [dec_step n h10, mk8_app])
      have hz1 := dec_size (n / 10) (by omega)
      have hz2 := dec_size (n % 10) (by omega)
      rw [HS.out]
      generalize mk8 (Lib.decDigits (n / 10)) = x at *
      generalize mk8 (Lib.decDigits (n % 10)) = y at *
      clear ih hn
      go_enter Tryz.func41, Tryz.ntmps41
      go_wp2_with fail
      refine (H1.out w).mono ?_
      rintro e w1 ⟨rfl, hw⟩
      have hw' := hw.symm
      subst hw'
      clear hw
      go_wp2_with fail
      refine (H2.out w).mono ?_
      rintro e w1 ⟨rfl, hw⟩
      have hw' := hw.symm
      subst hw'
      clear hw
      go_wp2_with fail
      go_ret
      exact ⟨rfl, rfl⟩


theorem join_flat (x : List UInt8) (r : List (List UInt8)) : Lib.join (x :: r) [32] = x ++ r.flatMap (fun y => 32 :: y) := by
  induction r generalizing x with
  | nil => rw [Lib.join_one]; simp
  | cons y r ih => rw [join_two, ih y]; simp

/-- a part more, if there is one -/
def catIf (x : ByteArray) (q : Bool) (y : ByteArray) : ByteArray := if q then x ++ ((⟨#[32]⟩ : ByteArray) ++ y) else x

theorem cat_mk (x : List UInt8) (q : Bool) (y : List UInt8) : catIf (mk8 x) q (mk8 y) = mk8 (x ++ (if q then [y] else []).flatMap (fun y => 32 :: y)) := by
  unfold catIf
  cases q
  · simp
  · rw [if_pos rfl, show (⟨#[32]⟩ : ByteArray) = mk8 [32] from rfl, mk8_app, mk8_app]
    simp

theorem txt_cat {k a b : Nat} {nm : ByteArray} (h : rightB k a b nm = true) :
    mk8 (txtOf k a b nm) = catIf (catIf (catIf (mk8 (wordOf k)) (decide (a ≠ 0)) (mk8 (Lib.decDigits a))) (decide (b ≠ 0)) (mk8 (Lib.decDigits b))) (decide (nm.size ≠ 0)) (mk8 nm.data.toList) := by
  rw [cat_mk, cat_mk, cat_mk]
  unfold txtOf textOf partsTxt idsOf
  rw [if_pos h, List.cons_append, join_flat, List.flatMap_append]
  simp only []
  rw [List.flatMap_append]
  simp [List.append_assoc]

theorem mk8_self (nm : ByteArray) : mk8 nm.data.toList = nm := rfl

set_option linter.unusedSimpArgs false in
set_option maxRecDepth 100000 in
set_option maxHeartbeats 3200000 in
theorem rtextop_any (k a b : Nat) (nm : ByteArray) (h : rightB k a b nm = true) (ha : a < 18446744073709551616) (hb : b < 18446744073709551616) (w : World) :
    Calls Tryz.prog 16 #[.agg #[.int .u8 k, .int .u64 a, .int .u64 b, .string nm]] w fun e w' => e = .returned (.string (mk8 (txtOf k a b nm))) ∧ Below w.heap.size w w' := by
  have HE := Lib.hid (txt_cat h)
  obtain ⟨p1, p2, p3, p4, p5, _⟩ := right_parts h
  have hnz := right_name h
  obtain ⟨q1, q2, q3, -, q5⟩ := has_parts k p1 p2
  have hw13 := word_len k
  rw [show decide (k ≠ 10) = decide (a ≠ 0) from decide_eq_decide.2 p3.symm] at q1
  rw [← p4] at q2
  rw [← p5] at q3
  have HHA : Hid (∀ w', Calls Tryz.prog 20 #[.string (mk8 (partsOf k)), .int .u8 65] w' fun e w'' => e = .returned (.bool (decide (a ≠ 0))) ∧ w'' = w') := Lib.hid fun w' => by
    have h1 := has_any (mk8 (partsOf k)) 65 (by rw [← str_len]; show (partsOf k).length ≤ _; omega) w'
    rw [show (mk8 (partsOf k)).data.toList = partsOf k from rfl, q1] at h1
    exact h1
  have HHB : Hid (∀ w', Calls Tryz.prog 20 #[.string (mk8 (partsOf k)), .int .u8 66] w' fun e w'' => e = .returned (.bool (decide (b ≠ 0))) ∧ w'' = w') := Lib.hid fun w' => by
    have h1 := has_any (mk8 (partsOf k)) 66 (by rw [← str_len]; show (partsOf k).length ≤ _; omega) w'
    rw [show (mk8 (partsOf k)).data.toList = partsOf k from rfl, q2] at h1
    exact h1
  have HHN : Hid (∀ w', Calls Tryz.prog 20 #[.string (mk8 (partsOf k)), .int .u8 78] w' fun e w'' => e = .returned (.bool (decide (nm.size ≠ 0))) ∧ w'' = w') := Lib.hid fun w' => by
    have h1 := has_any (mk8 (partsOf k)) 78 (by rw [← str_len]; show (partsOf k).length ≤ _; omega) w'
    rw [show (mk8 (partsOf k)).data.toList = partsOf k from rfl, q3] at h1
    exact h1
  have HDA := Lib.hid (rdec_any a ha)
  have HDB := Lib.hid (rdec_any b hb)
  have HPA := Lib.hid (parts_any k (by omega))
  have za := dec_size a ha
  have zb := dec_size b hb
  have zw : (mk8 (wordOf k)).size ≤ 13 := by rw [← str_len]; exact hw13
  rw [strV_mk, strV_mk] at HPA
  rw [mk8_self] at HE
  clear h p1 p2 p3 p4 p5 q1 q2 q3 q5 hw13 ha hb
  rw [HE.out]
  clear HE
  generalize mk8 (wordOf k) = tw at *
  generalize mk8 (partsOf k) = tp at *
  generalize mk8 (Lib.decDigits a) = ta at *
  generalize mk8 (Lib.decDigits b) = tb at *
  generalize decide (a ≠ 0) = qa at *
  generalize decide (b ≠ 0) = qb at *
  generalize decide (nm.size ≠ 0) = qn at *
  go_enter Tryz.func16, Tryz.ntmps16
  go_upto_region 1 with fail
  have hb1 := bal (bre w) (.cells #[.int .u8 k, .int .u64 a, .int .u64 b, .string nm] 32)
  have hr1 := heap_alloc_new w (.cells #[.int .u8 k, .int .u64 a, .int .u64 b, .string nm] 32)
  generalize w.alloc (.cells #[.int .u8 k, .int .u64 a, .int .u64 b, .string nm] 32) = w1 at *
  obtain ⟨n1, hn1⟩ : ∃ n, n = w.heap.size := ⟨_, rfl⟩
  rw [← hn1] at hr1 ⊢
  have HR1 := Lib.hid hr1
  have HB1 := Lib.hid hb1
  have c0 := cell_of_row w1 n1 0 _ _ _ HR1.out
  clear hr1 hb1 hn1
  go_wp2_with fail
  refine (HPA.out w1).mono ?_
  rintro e w2 ⟨rfl, hb2⟩
  have hr2 := (hb2.block n1 (Array.getElem?_eq_some_iff.1 HR1.out).1).trans HR1.out
  have HB2 := Lib.hid (btr HB1.out hb2)
  clear HPA c0 hb2 HB1 HR1
  have c1 := cell_of_row w2 n1 1 _ _ _ hr2
  have c2 := cell_of_row w2 n1 2 _ _ _ hr2
  have c3 := cell_of_row w2 n1 3 _ _ _ hr2
  clear hr2
  have s1 : (tw ++ ((⟨#[32]⟩ : ByteArray) ++ ta)).size ≤ 34 := by rw [ByteArray.size_append, ByteArray.size_append]; show tw.size + (1 + ta.size) ≤ 34; omega
  have s2 : ((tw ++ ((⟨#[32]⟩ : ByteArray) ++ ta)) ++ ((⟨#[32]⟩ : ByteArray) ++ tb)).size ≤ 55 := by rw [ByteArray.size_append, ByteArray.size_append (b := tb)]; show _ + (1 + tb.size) ≤ 55; omega
  have s3 : (tw ++ ((⟨#[32]⟩ : ByteArray) ++ tb)).size ≤ 34 := by rw [ByteArray.size_append, ByteArray.size_append]; show tw.size + (1 + tb.size) ≤ 34; omega
  have s4 : ((⟨#[32]⟩ : ByteArray) ++ ta).size ≤ 21 := by rw [ByteArray.size_append]; show 1 + ta.size ≤ 21; omega
  have s5 : ((⟨#[32]⟩ : ByteArray) ++ tb).size ≤ 21 := by rw [ByteArray.size_append]; show 1 + tb.size ≤ 21; omega
  have s6 : ((⟨#[32]⟩ : ByteArray) ++ nm).size ≤ 65 := by rw [ByteArray.size_append]; show 1 + nm.size ≤ 65; omega
  cases qa <;> cases qb <;> cases qn
  all_goals
    go_wp2_with fail
    refine (HHA.out w2).mono ?_
    rintro e w3 ⟨rfl, hw⟩
    have hw' := hw.symm
    subst hw'
    clear hw
    go_wp2_with fail
    try
      refine (HDA.out w2).mono ?_
      rintro e w3 ⟨rfl, hw⟩
      have hw' := hw.symm
      subst hw'
      clear hw
      go_wp2_with fail
    refine (HHB.out w2).mono ?_
    rintro e w3 ⟨rfl, hw⟩
    have hw' := hw.symm
    subst hw'
    clear hw
    go_wp2_with fail
    try
      refine (HDB.out w2).mono ?_
      rintro e w3 ⟨rfl, hw⟩
      have hw' := hw.symm
      subst hw'
      clear hw
      go_wp2_with fail
    refine (HHN.out w2).mono ?_
    rintro e w3 ⟨rfl, hw⟩
    have hw' := hw.symm
    subst hw'
    clear hw
    go_wp2_with fail
    go_ret
    exact ⟨rfl, HB2.out⟩
end Go.Proofs.YtminfdlhbecnhaaGreatDoor
