/- CrownHolds, plainly: what survives of a write. -/
import Derived.Test.YtejdlgfiiagcmaaDoorCrN
import Derived.Test.YtejdlgfiiagcmaaDoorPreA
namespace Go.Proofs.YtejdlgfiiagcmaaDoor
open Go.RowKit

theorem readOf_congr (b c : Nat → List UInt8) (h : ∀ j, j < 2 → b j = c j) : readOf b = readOf c := by
  have h0 := h 0 (by decide)
  have h1 := h 1 (by decide)
  have e1 : scan b 1 = scan c 1 := by rw [show (1 : Nat) = 0 + 1 from rfl, scan_succ, scan_succ, h0]; rfl
  have e2 : scan b 2 = scan c 2 := by
    have s1 := scan_succ b 1
    have s2 := scan_succ c 1
    rw [h1, e1] at s1
    exact s1.trans s2.symm
  unfold readOf
  rw [h0, h1, e2]

/-- what waits as the disk crashes -/
def hB (k : Nat) (p : List UInt8) : Dk := ((dK k).wrote 5 (fullOf p)).wrote ((cK (k + 1)).gen % 2) (seal8 (cK (k + 1)).page.raw)
def hC (k : Nat) (p : List UInt8) : Dk := (hB k p).synced
def hD (k : Nat) (p : List UInt8) : Dk := (hC k p).wrote 5 (fullOf p)
def hE (k : Nat) (p : List UInt8) : Dk := (hD k p).crowned (cK (k + 2))

theorem getD_set (l : List (List UInt8)) (a i : Nat) (x : List UInt8) (hi : i < l.length) : (l.set a x).getD i [] = if i = a then x else l.getD i [] := by
  rw [List.getD_eq_getElem?_getD, List.getD_eq_getElem?_getD]
  by_cases h : i = a
  · subst h; rw [if_pos rfl, List.getElem?_set_self hi]; rfl
  · rw [if_neg h, List.getElem?_set_ne (fun e => h e.symm)]

theorem easy_wrote (d : Dk) (he : Easy d) (i : Nat) (p : List UInt8) (hc : d.count ≤ 800000) (hw : d.wait.length ≤ 800000) : Easy (d.wrote i p) := by
  obtain ⟨k1, k2, k3, k4⟩ := he.wrote_may i p
  refine ⟨he.bound, k2, k3, by show d.count + 1 ≤ _; omega, ?_⟩
  show (d.wait ++ [(i, p)]).length ≤ _
  rw [List.length_append]; simp; omega

theorem hB_wait (k : Nat) (p : List UInt8) (h : k < 98) : (hB k p).wait = [(5, fullOf p), ((cK (k + 1)).gen % 2, seal8 (cK (k + 1)).page.raw)] := by
  obtain ⟨i1, i2, -, -⟩ := dK_facts k (by omega)
  show (dK k).wait ++ [(5, fullOf p)] ++ [_] = _
  rw [i2]
  rfl
theorem hB_safe (k : Nat) (p : List UInt8) : (hB k p).safe = (dK k).safe := rfl
theorem h_facts (k : Nat) (p : List UInt8) (h : k < 98) : Easy ((dK k).wrote 5 (fullOf p)) ∧ Easy (hB k p) ∧ Easy (hC k p) ∧ Easy (hD k p) ∧ (hB k p).safe.length = 10 ∧ (hC k p).safe.length = 10 ∧ (hD k p).safe.length = 10 ∧ (hE k p).safe.length = 10 ∧ (hE k p).count = (hC k p).count + 2 ∧ (hE k p).wait = [] := by
  obtain ⟨i1, i2, i3, i4⟩ := dK_facts k (by omega)
  have e1 := easy_wrote _ i3 5 (fullOf p) (by omega) (by rw [i2]; decide)
  have e2 : Easy (hB k p) := easy_wrote _ e1 _ _ (by show (dK k).count + 1 ≤ _; omega) (by show ((dK k).wait ++ [(5, fullOf p)]).length ≤ _; rw [i2]; show 1 ≤ _; decide)
  have e3 : Easy (hC k p) := e2.synced
  have e4 : Easy (hD k p) := easy_wrote _ e3 5 (fullOf p) (by show (dK k).count + 1 + 1 ≤ _; omega) (by show 0 ≤ _; decide)
  have l3 : (hC k p).safe.length = 10 := by unfold hC; rw [Dk.synced_length, hB_safe]; exact i1
  have l4 : (hD k p).safe.length = 10 := l3
  exact ⟨e1, e2, e3, e4, i1, l3, l4, by unfold hE; rw [crowned_length]; exact l4, rfl, rfl⟩

theorem dK_next_now (k : Nat) (h : k < 98) (j : Nat) : (dK (k + 1)).now j = if j = (cK (k + 1)).gen % 2 then seal8 (cK (k + 1)).page.raw else (dK k).now j := dK_now k (by omega) j

theorem hold_crash (k : Nat) (p : List UInt8) (keep : List Bool) (h : k < 97) : readOf ((hB k p).crashed keep).now = (cK k, 0, 0) ∨ readOf ((hB k p).crashed keep).now = (cK (k + 1), 0, 0) := by
  obtain ⟨i1, i2, -, -⟩ := dK_facts k (by omega)
  have hn : ∀ j, j < 2 → ((hB k p).crashed keep).now j = if keep.getD 1 false then (dK (k + 1)).now j else (dK k).now j := fun j hj => by
    rw [now_quiet _ (show ((hB k p).crashed keep).wait = [] from rfl)]
    show (crashOf keep 0 (hB k p).wait (hB k p).safe).getD j [] = _
    rw [hB_wait k p (by omega), hB_safe, dK_next_now k (by omega), now_quiet _ i2]
    show ((if keep.getD 1 false then (if keep.getD 0 false then (dK k).safe.set 5 (fullOf p) else (dK k).safe).set ((cK (k + 1)).gen % 2) (seal8 (cK (k + 1)).page.raw) else (if keep.getD 0 false then (dK k).safe.set 5 (fullOf p) else (dK k).safe))).getD j [] = _
    have h5 : (if keep.getD 0 false then (dK k).safe.set 5 (fullOf p) else (dK k).safe).getD j [] = (dK k).safe.getD j [] := by
      split
      · rw [getD_set _ _ _ _ (by rw [i1]; omega), if_neg (by omega)]
      · rfl
    have hl : (if keep.getD 0 false then (dK k).safe.set 5 (fullOf p) else (dK k).safe).length = 10 := by
      split
      · rw [List.length_set, i1]
      · exact i1
    by_cases hk : keep.getD 1 false = true
    · rw [if_pos hk, if_pos hk, getD_set _ _ _ _ (by rw [hl]; omega), h5]
    · rw [if_neg hk, if_neg hk, h5]
  by_cases hk : keep.getD 1 false = true
  · refine .inr ?_
    rw [readOf_congr _ (dK (k + 1)).now (fun j hj => by rw [hn j hj, if_pos hk])]
    exact dK_read (k + 1) (by omega)
  · refine .inl ?_
    rw [readOf_congr _ (dK k).now (fun j hj => by rw [hn j hj, if_neg hk])]
    exact dK_read k (by omega)

theorem wrote_now (d : Dk) (i : Nat) (p : List UInt8) (j : Nat) : (d.wrote i p).now j = if j = i then p else d.now j := by
  unfold Dk.now Dk.wrote
  simp only
  rw [lastOf_append]
  show (if i = j then p else _) = _
  by_cases e : j = i
  · rw [if_pos e, if_pos e.symm]
  · rw [if_neg e, if_neg (fun h => e h.symm)]

theorem hE_now (k : Nat) (p : List UInt8) (h : k < 97) (j : Nat) (hj : j < 10) : (hE k p).now j = if j = 5 then fullOf p else (dK (k + 2)).now j := by
  obtain ⟨-, -, -, -, l2, l3, l4, -, -, -⟩ := h_facts k p (by omega)
  unfold hE
  rw [crowned_now _ _ (by rw [l4]; decide), synced_now _ _ (by rw [l4]; exact hj)]
  have h5 : ∀ c : Cr, 5 ≠ c.gen % 2 := fun c => by have := Nat.mod_lt c.gen (show 0 < 2 by decide); omega
  have hd : (hD k p).now j = if j = 5 then fullOf p else (hC k p).now j := wrote_now _ _ _ _
  rw [hd]
  by_cases e5 : j = 5
  · rw [if_pos e5, if_pos e5, if_neg (by rw [e5]; exact h5 _)]
  · rw [if_neg e5, if_neg e5, show k + 2 = k + 1 + 1 from rfl, dK_next_now (k + 1) (by omega)]
    have hc : (hC k p).now j = (dK (k + 1)).now j := by
      unfold hC
      rw [synced_now _ _ (by rw [l2]; exact hj), dK_next_now k (by omega)]
      unfold hB
      rw [wrote_now, wrote_now, if_neg e5]
    rw [hc]

theorem hold_end (k : Nat) (p : List UInt8) (keep : List Bool) (h : k < 96) : readOf ((hE k p).crashed keep).now = (cK (k + 2), 0, 0) ∧ ((hE k p).crashed keep).now 5 = fullOf p ∧ ((hE k p).crashed keep).safe.length = 10 := by
  obtain ⟨-, -, -, -, -, -, -, l5, -, w5⟩ := h_facts k p (by omega)
  have hs : ((hE k p).crashed keep).safe = (hE k p).safe := by
    show crashOf keep 0 (hE k p).wait (hE k p).safe = _
    rw [w5]
    rfl
  have hn : ∀ j, j < 10 → ((hE k p).crashed keep).now j = if j = 5 then fullOf p else (dK (k + 2)).now j := fun j hj => by
    rw [← hE_now k p (by omega) j hj, now_quiet _ (show ((hE k p).crashed keep).wait = [] from rfl), now_quiet _ w5, hs]
  refine ⟨?_, by rw [hn 5 (by decide), if_pos rfl], by rw [hs]; exact l5⟩
  rw [readOf_congr _ (dK (k + 2)).now (fun j hj => by rw [hn j (by omega), if_neg (by omega)])]
  exact dK_read (k + 2) (by omega)
end Go.Proofs.YtejdlgfiiagcmaaDoor
