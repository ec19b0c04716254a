/- What Parse answers, as a function of the text. -/
import Derived.Test.YtljdphpbalioaaaGreatDoorGpB
import Derived.Test.YtljdphpbalioaaaGreatDoorGpD
import Derived.Test.YtljdphpbalioaaaGreatDoorGnZ
namespace Go.Proofs.YtljdphpbalioaaaGreatDoor
open Go.RowKit
set_option linter.unusedSectionVars false

namespace Nm
variable {α : Type} [DecidableEq α] {I : α → Nat} {M : Nat}
theorem upd_le {f : α → Nat} (h : ∀ x, f x ≤ M) {v : Nat} (hv : v ≤ M) (a : α) : ∀ x, updF f a v x ≤ M := fun x => by
  unfold updF
  split
  · exact hv
  · exact h x
theorem declare_ref (x : Bs) (a : α) (s : St α) : (declare x a s).2.ref = s.ref := by
  unfold declare
  split <;> rfl
theorem pre_le (hI : ∀ a, I a ≤ M) (a : α) (k : Nat) (m g : Bs) (s : St α) (h : ∀ x, s.ref x ≤ M) : ∀ x, (pre I a k m g s).2.ref x ≤ M := by
  unfold pre
  split
  · cases findS g s.scope with
    | none => exact h
    | some b => exact upd_le h (hI b) a
  split
  · exact h
  split
  · exact h
  · exact h
theorem post_le (a : α) (k : Nat) (nm : Bs) (s : St α) (h : ∀ x, s.ref x ≤ M) : ∀ x, (post a k nm s).2.ref x ≤ M := by
  unfold post
  split
  · exact h
  split
  · rw [declare_ref]; exact h
  · exact h
mutual
theorem visit_le (hI : ∀ a, I a ≤ M) : ∀ (t : LT α) (s : St α), (∀ x, s.ref x ≤ M) → ∀ x, (visit I t s).2.ref x ≤ M
  | .mk a k nm u ty m g ks, s, h => by
    have h1 := pre_le hI a k m g s h
    have h2 := visitL_le hI ks _ h1
    have h3 := post_le a k nm _ h2
    rw [visit]
    simp only
    split
    · split
      · exact h3
      · exact h2
    · exact h1
theorem visitL_le (hI : ∀ a, I a ≤ M) : ∀ (l : List (LT α)) (s : St α), (∀ x, s.ref x ≤ M) → ∀ x, (visitL I l s).2.ref x ≤ M
  | [], s, h => by rw [visitL]; exact h
  | t :: l, s, h => by
    have h1 := visit_le hI t s h
    have h2 := visitL_le hI l _ h1
    rw [visitL]
    split
    · exact h2
    · exact h1
end
theorem funcL_le (hI : ∀ a, I a ≤ M) : ∀ (l : List (LT α)) (s : St α), (∀ x, s.ref x ≤ M) → ∀ x, (funcL I l s).2.ref x ≤ M
  | [], s, h => by rw [funcL]; exact h
  | t :: l, s, h => by
    have h1 : ∀ x, (if t.kind = 4 then declare t.name t.lab s else visit I t s).2.ref x ≤ M := by
      split
      · rw [declare_ref]; exact h
      · exact visit_le hI t s h
    have h2 := funcL_le hI l _ h1
    rw [funcL]
    by_cases hz : (if t.kind = 4 then declare t.name t.lab s else visit I t s).1 = 0
    · rw [if_pos hz]; exact h2
    · rw [if_neg hz]; exact h1
theorem func_le (hI : ∀ a, I a ≤ M) (m : Bs) (t : LT α) (s : Fs α) (h : ∀ x, s.ref x ≤ M) : ∀ x, (func I m t s).2.ref x ≤ M := by
  unfold func
  split
  · exact h
  · exact funcL_le hI t.kids ⟨fun _ => false, [fun _ => none], s.calls, s.ref⟩ h
theorem funcsL_le (hI : ∀ a, I a ≤ M) (m : Bs) : ∀ (l : List (LT α)) (s : Fs α), (∀ x, s.ref x ≤ M) → ∀ x, (funcsL I m l s).2.ref x ≤ M
  | [], s, h => by rw [funcsL]; exact h
  | t :: l, s, h => by
    have h1 := func_le hI m t s h
    have h2 := funcsL_le hI m l _ h1
    rw [funcsL]
    split
    · exact h2
    · exact h1
theorem modsL_le (hI : ∀ a, I a ≤ M) : ∀ (l : List (LT α)) (ms : Bs → Bool) (s : Fs α), (∀ x, s.ref x ≤ M) → ∀ x, (modsL I l ms s).2.ref x ≤ M
  | [], _, s, h => by rw [modsL]; exact h
  | t :: l, ms, s, h => by
    have h1 := funcsL_le hI t.name t.kids s h
    have h2 := modsL_le hI l (fun y => decide (y = t.name) || ms y) _ h1
    rw [modsL]
    split
    · exact h
    simp only
    split
    · exact h2
    · exact h1
theorem callsL_le (hI : ∀ a, I a ≤ M) (fs : Bs × Bs → Option α) : ∀ (l : List (Bs × Bs × α)) (R : α → Nat), (∀ x, R x ≤ M) → ∀ x, (callsL I l fs R).2 x ≤ M
  | [], R, h => by rw [callsL]; exact h
  | c :: l, R, h => by
    rw [callsL]
    cases fs (c.1, c.2.1) with
    | none => exact h
    | some b => exact callsL_le hI fs l _ (upd_le h (hI b) _)
theorem all_le (hI : ∀ a, I a ≤ M) (t : LT α) : ∀ x, (all I t).2 x ≤ M := by
  have h1 := modsL_le hI t.kids (fun _ => false) ⟨fun _ => none, [], fun _ => 0⟩ fun _ => Nat.zero_le _
  unfold all
  simp only
  split
  · exact callsL_le hI _ _ _ h1
  · exact h1
end Nm
theorem toks_bound : ∀ (f i : Nat) (l : List UInt8) (ts : List Tok), toks f i l = some ts → ts.length ≤ l.length ∧ ∀ t ∈ ts, t.text.length ≤ l.length := by
  intro f
  induction f with
  | zero => intro i l ts h; cases h
  | succ f ih =>
    intro i l ts h
    cases l with
    | nil => cases h; exact ⟨Nat.le_refl _, fun t ht => nomatch ht⟩
    | cons b r =>
      rw [toks] at h
      by_cases h1 : classOf b.toNat = 3
      · rw [if_pos h1] at h
        have h2 := ih _ _ _ h
        exact ⟨Nat.le_trans h2.1 (Nat.le_succ _), fun t ht => Nat.le_trans (h2.2 t ht) (Nat.le_succ _)⟩
      rw [if_neg h1] at h
      by_cases h2 : b.toNat = 35
      · rw [if_pos h2] at h
        have h3 := ih _ _ _ h
        have h4 : ((b :: r).drop (noteOf (b :: r))).length ≤ (b :: r).length := by rw [List.length_drop]; omega
        exact ⟨Nat.le_trans h3.1 h4, fun t ht => Nat.le_trans (h3.2 t ht) h4⟩
      rw [if_neg h2] at h
      by_cases h3 : (tokAt (b :: r)).1 = 0
      · rw [if_pos h3] at h; cases h
      rw [if_neg h3] at h
      cases hr : toks f (i + (tokAt (b :: r)).2) ((b :: r).drop (tokAt (b :: r)).2) with
      | none => rw [hr] at h; cases h
      | some q =>
        rw [hr] at h
        cases h
        have h4 := ih _ _ _ hr
        have h5 := tok_pos h3
        have h6 : ((b :: r).drop (tokAt (b :: r)).2).length + 1 ≤ (b :: r).length := by rw [List.length_drop, List.length_cons]; omega
        refine ⟨by rw [List.length_cons]; omega, fun t ht => ?_⟩
        rcases List.mem_cons.1 ht with rfl | ht
        · show ((b :: r).take _).length ≤ _
          rw [List.length_take]
          omega
        · have := h4.2 t ht
          omega
theorem toksOf_bound {l : Bs} {ts : List Tok} (h : toksOf l = some ts) : ts.length ≤ l.length ∧ ∀ t ∈ ts, t.text.length ≤ l.length := by
  have := toks_bound _ _ _ _ (show toks ((l.drop 0).length + 1) 0 (l.drop 0) = some ts from h)
  rwa [List.drop_zero] at this
theorem toksOf_ok {l : Bs} {ts : List Tok} (h : toksOf l = some ts) (hl : l.length ≤ 200000) : TokOk ts := fun t ht hk => by
  have h1 := (tok_len h t ht).2.2.2 hk
  have h2 := (toksOf_bound h).2 t ht
  exact ⟨h1.1, h1.2, by omega⟩
theorem idsOf_le (T : LT Nat) (M : Nat) (h : T.count ≤ M) : ∀ x, idsOf T x ≤ M := Nm.numT_le T _ 1 M (fun _ => Nat.zero_le _) (by omega)
theorem plainOk (l : Bs) (hl : l.length ≤ 200000) : PlainOk l where
  toks := fun ts h => ⟨by have := (toksOf_bound h).1; omega, toksOf_ok h hl⟩
  size := fun ts T h hT hb => by
    have h1 := Gr.program_count (ts.length + 1) hb
    have h2 := (toksOf_bound h).1
    rw [← hT, LT.count_bare] at h1
    omega
  node := fun ts T h hT a ha => by
    have h1 := Gr.program_good (ts := ts) (fun t ht => by have := (toksOf_bound h).2 t ht; omega) (toksOf_ok h hl) (ts.length + 1)
    rw [← hT] at h1
    exact LT.good_nodes T h1 a ha
  ids := fun T hn hc => by
    have e := Nm.numT_tag T (fun _ => 0) 1 hn
    have e2 : (LT.labs T).map (idsOf T) = List.range' 1 T.count := by
      rw [← LT.labs_map]
      show LT.labs (LT.map (Nm.numT (fun _ => 0) 1 T).1 T) = _
      rw [e, Nm.tag_labs, LT.count_bare]
    refine ⟨fun a ha => ?_, fun x => by have := idsOf_le T 20000 hc x; omega, ?_⟩
    · have h1 : idsOf T a.lab ∈ (LT.labs T).map (idsOf T) := List.mem_map.2 ⟨a.lab, List.mem_map.2 ⟨a, ha, rfl⟩, rfl⟩
      rw [e2, List.mem_range'_1] at h1
      omega
    · have h2 := congrArg LT.lab e
      rw [LT.map_lab] at h2
      obtain ⟨a, k, n, u, ty, m, g, ks⟩ := T
      exact h2
  refs := fun T hc x => by have := Nm.all_le (idsOf_le T 20000 hc) T x; omega
/-- what a program's names come to; what is laid -/
def errOf (t : Tr) : Nat := (Nm.all (fun n => n) (Nm.tag 1 t)).1
def rowsOf (t : Tr) : List (Nat × Nd) := Nm.layT (fun n => n) (Nm.all (fun n => n) (Nm.tag 1 t)).2 [(1, .prog)] (Nm.tag 1 t)
/-- a text's error, and its nodes -/
def parsed (l : Bs) : Nat × List (Nat × Nd) :=
  if 200000 < l.length then (4, [])
  else match toksOf l with
    | none => (20, [])
    | some ts =>
      if (Gr.program ts (ts.length + 1)).2.bad then (20, [])
      else if 20000 < (Gr.program ts (ts.length + 1)).1.count then (5, [])
      else if errOf (Gr.program ts (ts.length + 1)).1 ≠ 0 then (errOf (Gr.program ts (ts.length + 1)).1, [])
      else (0, rowsOf (Gr.program ts (ts.length + 1)).1)
def ParseIs (l : Bs) (w : World) (e : Ending) (w' : World) : Prop := Below w.heap.size w w' ∧
  (((parsed l).1 ≠ 0 ∧ e = retP none (parsed l).1) ∨ ((parsed l).1 = 0 ∧ ∃ ga ba, e = retP (some ga) 0 ∧ ArAt w' ga ba (parsed l).2))
theorem parse_text (l : Bs) (w : World) (htb : Tb w.heap.size w) : Calls Tryz.prog 6 #[.string (mk8 l)] w (ParseIs l w) := by
  refine (parse_any l w htb (plainOk l)).mono ?_
  rintro e w' ⟨hb, h⟩
  refine ⟨hb, ?_⟩
  unfold parsed
  rcases h with ⟨h1, rfl⟩ | ⟨h1, h2, rfl⟩ | ⟨h1, ts, h2, h⟩
  · rw [if_pos h1]
    exact .inl ⟨by decide, rfl⟩
  · rw [if_neg (by omega), h2]
    exact .inl ⟨by show (20 : Nat) ≠ 0; decide, rfl⟩
  rw [if_neg (by omega), h2]
  simp only
  rcases h with ⟨h3, rfl⟩ | ⟨h3, T, hT, hn, h⟩
  · rw [if_pos h3]
    exact .inl ⟨by decide, rfl⟩
  rw [if_neg (by rw [h3]; decide), ← hT, LT.count_bare]
  obtain ⟨a1, a2⟩ := Nm.all_tag T hn
  have e1 : (Nm.all (idsOf T) T).1 = errOf T.bare := a1
  have e2 : Nm.layT (idsOf T) (Nm.all (idsOf T) T).2 [(1, .prog)] T = rowsOf T.bare := a2 _
  rw [e1, e2] at h
  rcases h with ⟨h4, rfl⟩ | ⟨h4, h5, rfl⟩ | ⟨h4, h5, ga, ba, rfl, h6⟩
  · rw [if_pos h4]
    exact .inl ⟨by decide, rfl⟩
  · rw [if_neg (by omega), if_pos h5]
    exact .inl ⟨h5, rfl⟩
  · rw [if_neg (by omega), if_neg (by omega)]
    exact .inr ⟨rfl, ga, ba, rfl, h6⟩
end Go.Proofs.YtljdphpbalioaaaGreatDoor
