/- Plain: the parser keeps its word: where it may stand, and that it never goes back. -/
import Derived.Test.YtljdphpbalioaaaGreatDoorGrE
namespace Go.Proofs.YtljdphpbalioaaaGreatDoor
open Go.RowKit

namespace Gr
/-- where the parser may stand -/
structure Ok (ts : List Tok) (s : PS) : Prop where
  deep : s.deep ≤ 90
  pos : s.pos ≤ ts.length + (91 - s.deep)
  here : s.bad = false → s.pos ≤ ts.length
/-- the same, one step wider -/
structure Okw (ts : List Tok) (s : PS) : Prop where
  deep : s.deep ≤ 90
  pos : s.pos ≤ ts.length + (92 - s.deep)
  here : s.bad = false → s.pos ≤ ts.length
theorem Ok.wide {ts : List Tok} {s : PS} (h : Ok ts s) : Okw ts s := ⟨h.deep, by have := h.pos; omega, h.here⟩
theorem Okw.ok {ts : List Tok} {s : PS} (h : Okw ts s) (hb : s.bad = false) : Ok ts s := ⟨h.deep, by have := h.here hb; omega, h.here⟩
/-- a hand that keeps the word -/
structure Keeps {α : Type} (ts : List Tok) (f : PS → α × PS) : Prop where
  ok : ∀ s, Ok ts s → Ok ts (f s).2
  fwd : ∀ s, s.pos ≤ (f s).2.pos
  deep : ∀ s, (f s).2.deep = s.deep
variable {ts : List Tok}
theorem now_here {s : PS} (h : (now ts s).kind ≠ 0) : s.bad = false ∧ s.pos < ts.length := by
  unfold now at h
  cases hb : s.bad with
  | true => rw [hb] at h; exact absurd rfl h
  | false =>
    rw [hb] at h
    refine ⟨rfl, ?_⟩
    by_cases hp : s.pos < ts.length
    · exact hp
    · rw [List.getElem?_eq_none (by omega)] at h
      exact absurd rfl h
theorem isT_here {s : PS} {x : List UInt8} (h : isT ts s x = true) : s.bad = false ∧ s.pos < ts.length := by
  refine now_here (ts := ts) fun e => ?_
  unfold isT at h
  rw [e] at h
  simp at h
theorem Ok.adv {s : PS} (h : Ok ts s) (hp : s.pos < ts.length) : Ok ts (PS.adv s) :=
  ⟨h.deep, by show s.pos + 1 ≤ _ + (91 - s.deep); omega, fun _ => by show s.pos + 1 ≤ _; omega⟩
theorem Ok.fail {s : PS} (h : Ok ts s) : Ok ts (PS.fail s) := ⟨h.deep, h.pos, fun e => by cases e⟩
theorem Ok.want1 {s : PS} (h : Ok ts s) (x : List UInt8) : Ok ts (want1 ts s x) := by
  unfold Gr.want1
  split
  · rename_i hi; exact h.adv (isT_here hi).2
  · exact h.fail
theorem want1_fwd (s : PS) (x : List UInt8) : s.pos ≤ (want1 ts s x).pos := by
  unfold want1
  split
  · exact Nat.le_succ _
  · exact Nat.le_refl _
theorem want1_deep (s : PS) (x : List UInt8) : (want1 ts s x).deep = s.deep := by unfold want1; split <;> rfl
theorem name_keeps : Keeps ts (name ts) := by
  refine ⟨fun s h => ?_, fun s => ?_, fun s => ?_⟩ <;> unfold name <;> split
  · rename_i hk; exact h.adv (now_here (ts := ts) (by rw [hk]; decide)).2
  · exact h.fail
  · exact Nat.le_succ _
  · exact Nat.le_refl _
  · rfl
  · rfl
theorem types_keeps : Keeps ts (types ts) := by
  refine ⟨fun s h => ?_, fun s => ?_, fun s => ?_⟩ <;> unfold types <;> split
  · rename_i hk; exact h.adv (isT_here hk).2
  · split
    · rename_i hk; exact h.adv (isT_here hk).2
    · exact h.fail
  · exact Nat.le_succ _
  · split
    · exact Nat.le_succ _
    · exact Nat.le_refl _
  · rfl
  · split <;> rfl
variable {α : Type}
theorem within_keeps {f : PS → α × PS} (d : α) (hf : ∀ s, Ok ts s → Okw ts (f s).2) (hw : ∀ s, s.pos ≤ (f s).2.pos) (hd : ∀ s, (f s).2.deep = s.deep) : Keeps ts (fun s => within s f d) := by
  refine ⟨fun s h => ?_, fun s => ?_, fun s => ?_⟩ <;> unfold within <;> split
  · exact h.fail
  · rename_i hb
    simp only [Bool.or_eq_true, decide_eq_true_eq, not_or] at hb
    have hb1 : s.bad = false := by cases h2 : s.bad with | true => exact absurd h2 hb.1 | false => rfl
    have h1 : Ok ts ⟨s.pos, s.deep + 1, false⟩ := ⟨by show s.deep + 1 ≤ 90; omega, by have := h.here hb1; show s.pos ≤ _ + (91 - (s.deep + 1)); omega, fun _ => h.here hb1⟩
    have h2 := hf _ h1
    have h3 := hd ⟨s.pos, s.deep + 1, false⟩
    have h4 := h2.pos
    simp only at h3
    rw [h3] at h4
    refine ⟨?_, ?_, h2.here⟩
    · show _ - 1 ≤ 90; rw [h3]; have := h.deep; omega
    · show (f ⟨s.pos, s.deep + 1, false⟩).2.pos ≤ ts.length + (91 - ((f ⟨s.pos, s.deep + 1, false⟩).2.deep - 1)); rw [h3]; omega
  · exact Nat.le_refl _
  · exact hw ⟨s.pos, s.deep + 1, false⟩
  · rfl
  · have h3 := hd ⟨s.pos, s.deep + 1, false⟩
    show _ - 1 = _
    rw [h3]
    rfl
theorem rounds_keeps {f : PS → α × PS} (e : List UInt8) (hf : Keeps ts f) : ∀ n, Keeps ts (rounds ts e f n)
  | 0 => ⟨fun s h => h, fun s => Nat.le_refl _, fun s => rfl⟩
  | n + 1 => by
    have ih := rounds_keeps e hf n
    refine ⟨fun s h => ?_, fun s => ?_, fun s => ?_⟩ <;> unfold rounds <;> split
    · exact h
    · split
      · rename_i hi; exact (hf.ok s h).adv (isT_here hi).2
      · exact ih.ok _ ((hf.ok s h).want1 _)
    · exact Nat.le_refl _
    · split
      · exact Nat.le_trans (hf.fwd s) (Nat.le_succ _)
      · exact Nat.le_trans (hf.fwd s) (Nat.le_trans (want1_fwd _ _) (ih.fwd _))
    · rfl
    · split
      · exact hf.deep s
      · exact (ih.deep _).trans ((want1_deep _ _).trans (hf.deep s))
theorem list_keeps {f : PS → α × PS} (e : List UInt8) (hf : Keeps ts f) (n : Nat) : Keeps ts (listOf ts e f n) := by
  have ih := rounds_keeps e hf n
  refine ⟨fun s h => ?_, fun s => ?_, fun s => ?_⟩ <;> unfold listOf <;> split
  · rename_i hi; exact h.adv (isT_here hi).2
  · exact ih.ok s h
  · exact Nat.le_succ _
  · exact ih.fwd s
  · rfl
  · exact ih.deep s
theorem till_keeps {f : PS → α × PS} (e : List UInt8) (eat : Bool) (hf : Keeps ts f) : ∀ n, Keeps ts (till ts e eat f n)
  | 0 => ⟨fun s h => h, fun s => Nat.le_refl _, fun s => rfl⟩
  | n + 1 => by
    have ih := till_keeps e eat hf n
    refine ⟨fun s h => ?_, fun s => ?_, fun s => ?_⟩ <;> unfold till <;> split
    · exact h
    · split
      · rename_i hi
        cases eat with
        | true => exact h.adv (isT_here hi).2
        | false => exact h
      · exact ih.ok _ (hf.ok s h)
    · exact Nat.le_refl _
    · split
      · cases eat with
        | true => exact Nat.le_succ _
        | false => exact Nat.le_refl _
      · exact Nat.le_trans (hf.fwd s) (ih.fwd _)
    · rfl
    · split
      · cases eat <;> rfl
      · exact (ih.deep _).trans (hf.deep s)
theorem fail_bad {s : PS} (h : s.bad = true) : PS.fail s = s := by
  obtain ⟨p, d, b⟩ := s
  cases h
  rfl
theorem now_bad {s : PS} (h : s.bad = true) : now ts s = ⟨0, [], 0⟩ := by unfold now; rw [h]; rfl
theorem isT_bad {s : PS} (h : s.bad = true) (x : List UInt8) : isT ts s x = false := by
  unfold isT
  rw [now_bad h]
  simp
theorem want1_bad {s : PS} (h : s.bad = true) (x : List UInt8) : want1 ts s x = s := by
  unfold want1
  rw [isT_bad h]
  exact fail_bad h
theorem expr_bad {s : PS} (h : s.bad = true) : ∀ n, expr ts n s = (leaf 0 0 [], s)
  | 0 => rfl
  | n + 1 => by
    unfold expr
    rw [now_bad h]
    simp only [isT_bad h]
    simp [fail_bad h]
theorem ops_nil : opNum [] = 0 := by decide
theorem binOf_keeps {f : PS → Tr × PS} (hf : Keeps ts f) (hb : ∀ s, s.bad = true → (f s).2 = s) :
    (∀ s, Ok ts s → Okw ts (binOf ts f s).2) ∧ (∀ s, s.pos ≤ (binOf ts f s).2.pos) ∧ (∀ s, (binOf ts f s).2.deep = s.deep) := by
  have e : ∀ s, (binOf ts f s).2 = want1 ts (f ⟨(f s).2.pos + 1, (f s).2.deep, (f s).2.bad || decide (opNum (now ts (f s).2).text = 0)⟩).2 [41] := fun s => rfl
  refine ⟨fun s h => ?_, fun s => ?_, fun s => ?_⟩ <;> rw [e]
  · have h1 := hf.ok s h
    generalize (f s).2 = a at *
    cases hbad : (a.bad || decide (opNum (now ts a).text = 0)) with
    | true =>
      have h2 := hb ⟨a.pos + 1, a.deep, true⟩ rfl
      rw [h2, want1_bad rfl]
      exact ⟨h1.deep, by have := h1.pos; have := h1.deep; show a.pos + 1 ≤ _ + (92 - a.deep); omega, fun e => by cases e⟩
    | false =>
      simp only [Bool.or_eq_false_iff, decide_eq_false_iff_not] at hbad
      have hk : a.pos < ts.length := by
        by_cases hp : a.pos < ts.length
        · exact hp
        · exfalso
          apply hbad.2
          have : now ts a = ⟨0, [], 0⟩ := by unfold now; rw [hbad.1, List.getElem?_eq_none (by omega)]; rfl
          rw [this]
          exact ops_nil
      have h3 : Ok ts ⟨a.pos + 1, a.deep, false⟩ := ⟨h1.deep, by show a.pos + 1 ≤ _ + (91 - a.deep); omega, fun _ => by show a.pos + 1 ≤ _; omega⟩
      exact ((hf.ok _ h3).want1 _).wide
  · have h4 := want1_fwd (ts := ts) (f ⟨(f s).2.pos + 1, (f s).2.deep, (f s).2.bad || decide (opNum (now ts (f s).2).text = 0)⟩).2 [41]
    have h5 : (f s).2.pos + 1 ≤ (f ⟨(f s).2.pos + 1, (f s).2.deep, (f s).2.bad || decide (opNum (now ts (f s).2).text = 0)⟩).2.pos := hf.fwd ⟨(f s).2.pos + 1, (f s).2.deep, _⟩
    have h6 := hf.fwd s
    omega
  · exact (want1_deep _ _).trans ((hf.deep _).trans (hf.deep s))
theorem callOf_keeps {f : PS → Tr × PS} (hf : Keeps ts f) (n : Nat) (mod : List UInt8) : Keeps ts (callOf ts f n mod) := by
  have hl := list_keeps (ts := ts) [41] hf n
  have hw : Keeps ts (fun s => within s (argsOf ts f n) []) := within_keeps [] (fun s h => (hl.ok _ (h.want1 _)).wide) (fun s => Nat.le_trans (want1_fwd _ _) (hl.fwd _)) fun s => (hl.deep _).trans (want1_deep _ _)
  exact ⟨fun s h => hw.ok _ (name_keeps.ok _ (h.want1 _)), fun s => Nat.le_trans (want1_fwd _ _) (Nat.le_trans (name_keeps.fwd _) (hw.fwd _)), fun s => (hw.deep _).trans ((name_keeps.deep _).trans (want1_deep _ _))⟩
theorem expr_keeps : ∀ n, Keeps ts (expr ts n)
  | 0 => ⟨fun s h => h, fun s => Nat.le_refl _, fun s => rfl⟩
  | n + 1 => by
    have ih := expr_keeps n
    have hc := fun m => callOf_keeps ih n m
    have h1 : Keeps ts (fun s => within s (oneOf (expr ts n)) []) := within_keeps [] (fun s h => (ih.ok s h).wide) (fun s => ih.fwd s) fun s => ih.deep s
    have hb := binOf_keeps (ts := ts) ih (fun s h => by rw [expr_bad h])
    have h2 : Keeps ts (fun s => within s (binOf ts (expr ts n)) (0, [])) := within_keeps (0, []) hb.1 hb.2.1 hb.2.2
    refine ⟨fun s h => ?_, fun s => ?_, fun s => ?_⟩
    · unfold expr
      by_cases k2 : (now ts s).kind = 2
      · rw [if_pos k2]; exact h.adv (now_here (ts := ts) (by rw [k2]; decide)).2
      · rw [if_neg k2]
        by_cases k1 : (now ts s).kind = 1
        · have ha := h.adv (now_here (ts := ts) (by rw [k1]; decide)).2
          rw [if_pos k1]
          split
          · exact (hc _).ok _ ha
          · exact ha
        · rw [if_neg k1]
          repeat' split
          all_goals first
            | (rename_i hi; exact h.adv (isT_here hi).2)
            | (rename_i hi; exact h1.ok _ (h.adv (isT_here hi).2))
            | (rename_i hi; exact h2.ok _ (h.adv (isT_here hi).2))
            | exact h.fail
    · unfold expr
      repeat' split
      all_goals first
        | exact Nat.le_succ _
        | exact Nat.le_refl _
        | exact Nat.le_trans (Nat.le_succ _) ((hc (now ts s).text).fwd (PS.adv s))
        | exact Nat.le_trans (Nat.le_succ _) (h1.fwd (PS.adv s))
        | exact Nat.le_trans (Nat.le_succ _) (h2.fwd (PS.adv s))
    · unfold expr
      repeat' split
      all_goals first
        | rfl
        | exact (hc _).deep _
        | exact h1.deep (PS.adv s)
        | exact h2.deep (PS.adv s)
theorem blockOf_keeps {st : PS → Tr × PS} (hs : Keeps ts st) (n : Nat) : Keeps ts (blockOf ts st n) := by
  have ht := till_keeps (ts := ts) [125] true hs n
  have hw : Keeps ts (fun s => within s (fun s => till ts [125] true st n (want1 ts s [123])) []) := within_keeps [] (fun s h => (ht.ok _ (h.want1 _)).wide) (fun s => Nat.le_trans (want1_fwd _ _) (ht.fwd _)) fun s => (ht.deep _).trans (want1_deep _ _)
  exact ⟨fun s h => hw.ok s h, fun s => hw.fwd s, fun s => hw.deep s⟩
theorem stmt_keeps (m : Nat) : ∀ n, Keeps ts (stmt ts m n)
  | 0 => ⟨fun s h => h, fun s => Nat.le_refl _, fun s => rfl⟩
  | n + 1 => by
    have he := expr_keeps (ts := ts) m
    have hb := blockOf_keeps (stmt_keeps m n) n
    have hc := fun x => callOf_keeps (ts := ts) he m x
    have hn := name_keeps (ts := ts)
    have hy := types_keeps (ts := ts)
    refine ⟨fun s h => ?_, fun s => ?_, fun s => ?_⟩
    · unfold stmt
      split
      · rename_i hi; exact (he.ok _ ((hy.ok _ (hn.ok _ (h.adv (isT_here hi).2))).want1 _)).want1 _
      split
      · rename_i hi; exact hb.ok _ ((hb.ok _ (he.ok _ (h.adv (isT_here hi).2))).want1 _)
      split
      · rename_i hi; exact hb.ok _ (he.ok _ (h.adv (isT_here hi).2))
      split
      · rename_i hi; exact (he.ok _ (h.adv (isT_here hi).2)).want1 _
      split
      · rename_i hi; exact ((hc _).ok _ (hn.ok _ (h.adv (isT_here hi).2))).want1 _
      · exact (he.ok _ ((hn.ok _ h).want1 _)).want1 _
    · have ha : s.pos ≤ (PS.adv s).pos := Nat.le_succ _
      unfold stmt
      split
      · exact Nat.le_trans ha (Nat.le_trans (hn.fwd _) (Nat.le_trans (hy.fwd _) (Nat.le_trans (want1_fwd _ _) (Nat.le_trans (he.fwd _) (want1_fwd _ _)))))
      split
      · exact Nat.le_trans ha (Nat.le_trans (he.fwd _) (Nat.le_trans (hb.fwd _) (Nat.le_trans (want1_fwd _ _) (hb.fwd _))))
      split
      · exact Nat.le_trans ha (Nat.le_trans (he.fwd _) (hb.fwd _))
      split
      · exact Nat.le_trans ha (Nat.le_trans (he.fwd _) (want1_fwd _ _))
      split
      · exact Nat.le_trans ha (Nat.le_trans (hn.fwd _) (Nat.le_trans ((hc (name ts (PS.adv s)).1).fwd _) (want1_fwd _ _)))
      · exact Nat.le_trans (hn.fwd _) (Nat.le_trans (want1_fwd _ _) (Nat.le_trans (he.fwd _) (want1_fwd _ _)))
    · unfold stmt
      split
      · exact (want1_deep _ _).trans ((he.deep _).trans ((want1_deep _ _).trans ((hy.deep _).trans (hn.deep (PS.adv s)))))
      split
      · exact (hb.deep _).trans ((want1_deep _ _).trans ((hb.deep _).trans (he.deep (PS.adv s))))
      split
      · exact (hb.deep _).trans (he.deep (PS.adv s))
      split
      · exact (want1_deep _ _).trans (he.deep (PS.adv s))
      split
      · exact (want1_deep _ _).trans (((hc (name ts (PS.adv s)).1).deep _).trans (hn.deep (PS.adv s)))
      · exact (want1_deep _ _).trans ((he.deep _).trans ((want1_deep _ _).trans (hn.deep s)))
theorem param_keeps : Keeps ts (param ts) :=
  ⟨fun s h => types_keeps.ok _ (name_keeps.ok s h), fun s => Nat.le_trans (name_keeps.fwd s) (types_keeps.fwd _), fun s => (types_keeps.deep _).trans (name_keeps.deep s)⟩
theorem funcOf_keeps (m : Nat) : Keeps ts (funcOf ts m) := by
  have he := expr_keeps (ts := ts) m
  have hn := name_keeps (ts := ts)
  have hy := types_keeps (ts := ts)
  have hl := list_keeps (ts := ts) [41] param_keeps m
  have ht := till_keeps (ts := ts) wReturn false (stmt_keeps m m) m
  exact ⟨fun s h => ((he.ok _ ((ht.ok _ ((hy.ok _ (hl.ok _ ((hn.ok _ (h.want1 _)).want1 _))).want1 _)).want1 _)).want1 _).want1 _,
    fun s => Nat.le_trans (want1_fwd _ _) (Nat.le_trans (hn.fwd _) (Nat.le_trans (want1_fwd _ _) (Nat.le_trans (hl.fwd _) (Nat.le_trans (hy.fwd _) (Nat.le_trans (want1_fwd _ _) (Nat.le_trans (ht.fwd _) (Nat.le_trans (want1_fwd _ _) (Nat.le_trans (he.fwd _) (Nat.le_trans (want1_fwd _ _) (want1_fwd _ _)))))))))),
    fun s => (want1_deep _ _).trans ((want1_deep _ _).trans ((he.deep _).trans ((want1_deep _ _).trans ((ht.deep _).trans ((want1_deep _ _).trans ((hy.deep _).trans ((hl.deep _).trans ((want1_deep _ _).trans ((hn.deep _).trans (want1_deep s wFunc))))))))))⟩
theorem modOf_keeps (m : Nat) : Keeps ts (modOf ts m) := by
  have hn := name_keeps (ts := ts)
  have ht := till_keeps (ts := ts) [125] true (funcOf_keeps m) m
  exact ⟨fun s h => ht.ok _ ((hn.ok _ (h.want1 _)).want1 _), fun s => Nat.le_trans (want1_fwd _ _) (Nat.le_trans (hn.fwd _) (Nat.le_trans (want1_fwd _ _) (ht.fwd _))), fun s => (ht.deep _).trans ((want1_deep _ _).trans ((hn.deep _).trans (want1_deep s wModule)))⟩
end Gr
end Go.Proofs.YtljdphpbalioaaaGreatDoor
