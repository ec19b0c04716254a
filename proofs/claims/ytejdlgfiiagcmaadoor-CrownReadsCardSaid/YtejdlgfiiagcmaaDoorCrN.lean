/- A disk of which a slot has rotted, plainly. -/
import Derived.Test.YtejdlgfiiagcmaaDoorCrM
import Derived.Test.YtejdlgfiiagcmaaDoorDkRot
namespace Go.Proofs.YtejdlgfiiagcmaaDoor
open Go.RowKit

theorem turned_page (p : Pg) (ok : p.Ok) (hk : p.kind ≠ 0) (s mask : Nat) : ¬ noughts (turns8 s mask 32 (seal8 p.raw)) := by
  intro h
  by_cases hs : 7 < s
  · have h1 := turns8_far s mask (seal8 p.raw) 0 32 (fun i _ => by omega)
    exact absurd (h _ (List.mem_of_getElem? (h1.trans (show (seal8 p.raw)[0]? = some 104 from rfl)))) (by decide)
  · have h1 := turns8_far s mask (seal8 p.raw) 14 32 (fun i hi => by omega)
    have h2 := h _ (List.mem_of_getElem? (h1.trans (show (seal8 p.raw)[14]? = some (UInt8.ofNat p.kind) from rfl)))
    have h3 : (UInt8.ofNat p.kind).toNat = p.kind := toNat_ofNat8 _ ok.kind
    rw [h2] at h3
    exact hk h3.symm

theorem atOf_bad (q : List UInt8) (i : Nat) (h3 : (parseOf q).1 ≠ 3) (h0 : (parseOf q).1 ≠ 0) : atOf q i = (.zero, false, 7) := by
  unfold atOf
  rw [if_neg h3, if_pos (.inl h0)]

theorem atOf_turned (c : Cr) (ok : c.Ok) (s mask i : Nat) (hm : mask ≠ 0) (hlt : mask < 4294967296) (hs : s ≤ 4064) : atOf (turns8 s mask 32 (seal8 c.page.raw)) i = (.zero, false, 7) := by
  have hrl := raw_length c.page (by show 1 ≤ 491; decide)
  have hl : (seal8 c.page.raw).length = 512 := by rw [seal_length, hrl]
  have hp : parseOf (turns8 s mask 32 (seal8 c.page.raw)) = (7, Pg.zero) := by
    refine parseOf_corrupt _ (by rw [length_turns8, hl]) (turned_page c.page ok.page (by show (9 : Nat) ≠ 0; decide) s mask) fun h => ?_
    refine turned_ne (seal8 c.page.raw) s mask hm hlt (by rw [hl]; omega) ?_
    exact shows_plain c.page.raw s mask _ rfl (by rw [hrl]; exact h)
  exact atOf_bad _ i (by rw [hp]; decide) (by rw [hp]; decide)

theorem atOf_turned_blank (s mask i : Nat) (hm : mask ≠ 0) (hlt : mask < 4294967296) (hs : s ≤ 4064) : atOf (turns8 s mask 32 blank512) i = (.zero, false, 7) := by
  have hbl : blank512.length = 512 := by unfold blank512; exact List.length_replicate
  have hl : (turns8 s mask 32 blank512).length = 512 := by rw [length_turns8, hbl]
  have hz : ¬ noughts (turns8 s mask 32 blank512) := fun h => by
    refine turned_ne blank512 s mask hm hlt (by rw [hbl]; omega) ?_
    have h1 := noughts_eq h
    rw [hl] at h1
    exact h1
  have hg : ∀ j, j < 512 → blank512[j]? = some 0 := fun j hj => by unfold blank512; rw [List.getElem?_replicate, if_pos hj]
  by_cases hsl : turns8 s mask 32 blank512 = seal8 ((turns8 s mask 32 blank512).take 508)
  · have hf : (turns8 s mask 32 blank512).getD 14 0 = 0 ∨ 491 < lenOf (turns8 s mask 32 blank512) ∨ ¬ ((turns8 s mask 32 blank512).take 2 = mark ∧ noughts (((turns8 s mask 32 blank512).take 508).drop (17 + lenOf (turns8 s mask 32 blank512)))) := by
      by_cases hs7 : 7 < s
      · refine .inr (.inr fun h => ?_)
        have h1 := turns8_far s mask blank512 0 32 (fun i _ => by omega)
        rw [hg 0 (by decide)] at h1
        have h2 : ((turns8 s mask 32 blank512).take 2)[0]? = some 0 := by rw [List.getElem?_take, if_pos (by decide)]; exact h1
        rw [h.1] at h2
        exact absurd h2 (by decide)
      · refine .inl ?_
        have h1 := turns8_far s mask blank512 14 32 (fun i hi => by omega)
        rw [hg 14 (by decide)] at h1
        rw [List.getD_eq_getElem?_getD, h1]
        rfl
    have hp := parseOf_form _ hl hz hsl hf
    exact atOf_bad _ i (by rw [hp]; decide) (by rw [hp]; decide)
  · have hp := parseOf_corrupt _ hl hz hsl
    exact atOf_bad _ i (by rw [hp]; decide) (by rw [hp]; decide)

theorem turnOf_zero (l : List UInt8) (s : Nat) : ∀ n, turnOf l s 0 n = l
  | 0 => rfl
  | n + 1 => by
    show turnAt (turnOf l s 0 n) (s + n) (0 / 2 ^ n % 2) = l
    rw [Nat.zero_div, turnAt_zero, turnOf_zero l s n]

theorem rotted_now (d : Dk) (h : d.wait = []) (i s mask : Nat) (hi : i < d.safe.length) (j : Nat) : (d.rotted i s mask 32).now j = if j = i then turnOf (d.now i) s mask 32 else d.now j := by
  have hw : (d.rotted i s mask 32).wait = [] := by unfold Dk.rotted; simp only; rw [h]; rfl
  rw [now_quiet _ hw, now_quiet _ h, now_quiet _ h]
  obtain ⟨x, hx⟩ : ∃ x, x = turnOf (d.safe.getD i []) s mask 32 := ⟨_, rfl⟩
  have hs : (d.rotted i s mask 32).safe = d.safe.set i x := by rw [hx]; rfl
  rw [hs]
  by_cases e : j = i
  · rw [if_pos e, e, ← hx, List.getD_eq_getElem?_getD, List.getElem?_set_self hi, Option.getD_some]
  · rw [if_neg e, List.getD_eq_getElem?_getD, List.getElem?_set_ne (fun h => e h.symm), ← List.getD_eq_getElem?_getD]

theorem dK_read (k : Nat) (h : k < 98) : readOf (dK k).now = (cK k, 0, 0) := by
  have s0 := dK_slot k h 0 (by decide)
  have s1 := dK_slot k h 1 (by decide)
  have e1 := scan_succ (dK k).now 0
  have e2 := scan_succ (dK k).now 1
  rw [readOf_end _ (fun j hj => by
    rw [dK_slot k h j hj]
    split
    · rfl
    · split <;> rfl)]
  rcases (by omega : k % 2 = 0 ∨ k % 2 = 1) with hk | hk
  · rw [if_neg (by omega)] at s0
    rw [if_pos (by omega)] at s1
    by_cases h0 : k = 0
    · rw [if_pos h0] at s0
      rw [s0] at e1
      rw [e1, s1] at e2
      rw [e2]
      rfl
    · rw [if_neg h0] at s0
      rw [s0] at e1
      have e1' : scan (dK k).now (0 + 1) = (cK (k - 1), true) := e1
      rw [e1', s1] at e2
      have hg : decide ((cK (k - 1)).gen < (cK k).gen) = true := decide_eq_true (by show 1 + (k - 1) < 1 + k; omega)
      have e2' : scan (dK k).now 2 = (cK k, true) := e2.trans (if_pos (by simp [hg]))
      rw [e2']
      rfl
  · rw [if_pos (by omega)] at s0
    rw [if_neg (by omega), if_neg (by omega)] at s1
    rw [s0] at e1
    have e1' : scan (dK k).now (0 + 1) = (cK k, true) := e1
    rw [e1', s1] at e2
    have hg : decide ((cK k).gen < (cK (k - 1)).gen) = false := decide_eq_false (by show ¬ 1 + k < 1 + (k - 1); omega)
    have e2' : scan (dK k).now 2 = (cK k, true) := e2.trans (if_neg (by simp [hg]))
    rw [e2']
    rfl

theorem rot_none (k i s : Nat) (h : k < 98) (hi : i < 2) : readOf ((dK k).rotted i s 0 32).now = (cK k, 0, 0) := by
  obtain ⟨i1, i2, -, -⟩ := dK_facts k (by omega)
  have e : ((dK k).rotted i s 0 32).now = (dK k).now := funext fun j => by
    rw [rotted_now _ i2 i s 0 (by rw [i1]; omega), turnOf_zero]
    split
    · next h => rw [h]
    · rfl
  rw [e]
  exact dK_read k h

theorem rot_some (k i s mask : Nat) (h : k < 98) (hi : i < 2) (hm : mask ≠ 0) (hlt : mask < 4294967296) (hs : s ≤ 4064) : readOf ((dK k).rotted i s mask 32).now = (.zero, i, 7) := by
  obtain ⟨i1, i2, -, -⟩ := dK_facts k (by omega)
  have en : ∀ j, ((dK k).rotted i s mask 32).now j = if j = i then turnOf ((dK k).now i) s mask 32 else (dK k).now j := fun j => rotted_now _ i2 i s mask (by rw [i1]; omega) j
  have hb : atOf (turnOf ((dK k).now i) s mask 32) i = (.zero, false, 7) := by
    by_cases he : i = (1 + k) % 2
    · rw [he, dK_new k (by omega), turnOf_is _ _ _ _ (by rw [seal_length, raw_length _ (by show 1 ≤ 491; decide)]; omega)]
      exact atOf_turned (cK k) (cK_ok k (by omega)) s mask _ hm hlt hs
    · have hk : i = k % 2 := by omega
      rw [hk, dK_old k h]
      by_cases h0 : k = 0
      · rw [if_pos h0, turnOf_is _ _ _ _ (by rw [show blank512.length = 512 by unfold blank512; exact List.length_replicate]; omega)]
        exact atOf_turned_blank s mask _ hm hlt hs
      · rw [if_neg h0, turnOf_is _ _ _ _ (by rw [seal_length, raw_length _ (by show 1 ≤ 491; decide)]; omega)]
        exact atOf_turned (cK (k - 1)) (cK_ok (k - 1) (by omega)) s mask _ hm hlt hs
  have h7 := readOf_bad ((dK k).rotted i s mask 32).now i hi (fun j hj => by
    rw [en j, if_neg (by omega), dK_slot k h j (by omega)]
    split
    · rfl
    · split <;> rfl) (by rw [en i, if_pos rfl, hb]; decide)
  rw [h7, en i, if_pos rfl, hb]
end Go.Proofs.YtejdlgfiiagcmaaDoor
