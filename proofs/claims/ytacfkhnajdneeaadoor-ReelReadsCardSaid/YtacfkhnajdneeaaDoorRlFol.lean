/- Walks: a number's four bytes, a page that is full, bytes that begin with bytes, a page that follows. -/
import Derived.Test.YtacfkhnajdneeaaDoorPreD
import Derived.Test.YtacfkhnajdneeaaDoorCrA
namespace Go.Proofs.YtacfkhnajdneeaaDoor
open Go.RowKit

set_option maxRecDepth 10000 in
set_option maxHeartbeats 400000 in
theorem rfour_any (n : Nat) (hn : n < 4294967296) (w : World) :
    Calls Tryd.prog 76 #[.int .u32 n] w fun e w' => ∃ v', e = .returned v' ∧ Own8 5 w.heap.size w' v' (be4 n) ∧ Below w.heap.size w w' := by
  go_enter Tryd.func76, Tryd.ntmps76
  go_wp2
  go_ret
  exact ⟨_, rfl, own8_lit _ _ _ _ _ (four_lit n hn) rfl (by simp [be4, maxLen]), (Below.refl _ _).alloc (Nat.le_refl _) _⟩

set_option maxRecDepth 10000 in
set_option maxHeartbeats 400000 in
theorem pfull_any (v : Value) (p : Pg) (w : World) (hv : PgAt w v p) :
    Calls Tryd.prog 75 #[v] w fun e w' => e = .returned (.bool (decide (p.data.length = 491))) ∧ Below w.heap.size w w' := by
  obtain ⟨vd, rfl, hd⟩ := PgAt.val hv
  obtain ⟨a, c, rfl, hm, hc, -, -⟩ := id hd
  unfold PgVal
  obtain ⟨L, hL⟩ : ∃ L, L = p.data.length := ⟨_, rfl⟩
  rw [← hL] at hm hc ⊢
  clear hd hv hL
  by_cases h : L = 491
  · have h1 : ((L : Int) == 491) = true := by rw [h]; rfl
    have h2 : decide ((L : Int) = 491) = true := decide_eq_true (by omega)
    rw [decide_eq_true h]
    clear h
    go_enter Tryd.func75, Tryd.ntmps75
    go_wp2_with fail
    go_ret
    exact ⟨rfl, bal (bre w) _⟩
  · have h1 : ((L : Int) == 491) = false := beq_false_of_ne (by omega)
    have h2 : decide ((L : Int) = 491) = false := decide_eq_false (by omega)
    rw [decide_eq_false h]
    clear h
    go_enter Tryd.func75, Tryd.ntmps75
    go_wp2_with fail
    go_ret
    exact ⟨rfl, bal (bre w) _⟩

set_option maxRecDepth 10000 in
set_option maxHeartbeats 800000 in
theorem prefix_any (v u : Value) (p q : List UInt8) (w : World) (hv : Bytes w v p) (hq : Bytes w u q) (hql : q.length ≤ 100000000) :
    Calls Tryd.prog 86 #[v, u] w fun e w' => e = .returned (.bool (decide (p.take q.length = q))) ∧ w' = w := by
  obtain ⟨a, c, rfl, hm, hc, -, -⟩ := id hv
  obtain ⟨b, d, rfl, hm2, hc2, -, -⟩ := id hq
  have HV := Lib.hid hv
  have HQ := Lib.hid hq
  by_cases hle : q.length ≤ p.length
  · have hf : Bytes w (.slice a q.length c) (p.take q.length) := hv.firsts q.length hle
    have HE := Lib.hid (equal_any _ _ (p.take q.length) q w hf hq)
    obtain ⟨R, hR⟩ : ∃ R, R = decide (p.take q.length = q) := ⟨_, rfl⟩
    rw [← hR] at HE ⊢
    obtain ⟨P, hP⟩ : ∃ P, P = p.length := ⟨_, rfl⟩
    obtain ⟨Q, hQ⟩ : ∃ Q, Q = q.length := ⟨_, rfl⟩
    rw [← hP] at hm hc hle ⊢
    rw [← hQ] at hm2 hc2 hql hle HE ⊢
    clear hf hv hq hR hP hQ HV HQ
    have h1 : decide ((Q : Int) ≤ P) = true := decide_eq_true (by omega)
    have h2 : decide (Q ≤ P) = true := decide_eq_true hle
    go_enter Tryd.func86, Tryd.ntmps86
    go_wp2_with fail
    refine HE.out.mono ?_
    rintro e w' ⟨rfl, rfl⟩
    go_wp2_with fail
    go_ret
    exact ⟨rfl, rfl⟩
  · have hno : decide (p.take q.length = q) = false := decide_eq_false fun e => by
      have := congrArg List.length e
      rw [List.length_take] at this
      omega
    rw [hno]
    obtain ⟨P, hP⟩ : ∃ P, P = p.length := ⟨_, rfl⟩
    obtain ⟨Q, hQ⟩ : ∃ Q, Q = q.length := ⟨_, rfl⟩
    rw [← hP] at hm hc hle ⊢
    rw [← hQ] at hm2 hc2 hql hle ⊢
    clear hno hv hq hP hQ HV HQ
    have h1 : decide ((Q : Int) ≤ P) = false := decide_eq_false (by omega)
    have h2 : decide (Q ≤ P) = false := decide_eq_false hle
    go_enter Tryd.func86, Tryd.ntmps86
    go_wp2_with fail
    go_ret
    exact ⟨rfl, rfl⟩
end Go.Proofs.YtacfkhnajdneeaaDoor
