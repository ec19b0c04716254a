/- Merged: GpF GpG GpH GpI GpJ GpK. -/
import Derived.Test.YtljdphpbalioaaaGreatDoorGpC
import Derived.Test.YtljdphpbalioaaaGreatDoorGrR
import Derived.Test.YtljdphpbalioaaaGreatDoorGpE
import Derived.Lib.IndexMore
/- Plain: the parser on a row of tokens and on a longer one; the braces of what is read. -/
namespace Go.Proofs.YtljdphpbalioaaaGreatDoor
open Go.RowKit

namespace Gr
def wt (x : List UInt8) : Int := if x = [123] then 1 else if x = [125] then -1 else 0
def net : List Tok → Int
  | [] => 0
  | t :: r => wt t.text + net r
theorem net_app : ∀ a b : List Tok, net (a ++ b) = net a + net b
  | [], b => by rw [List.nil_append, net]; omega
  | x :: a, b => by rw [List.cons_append, net, net, net_app a b]; omega
def bal (ts : List Tok) (p : Nat) : Int := net (ts.take p)
theorem bal_step {ts : List Tok} {p : Nat} (h : p < ts.length) : bal ts (p + 1) = bal ts p + wt (ts[p]).text := by
  unfold bal
  rw [List.take_succ_eq_append_getElem h, net_app, net, net]
  omega
/-- names, words and numbers are no braces -/
def NoBr (ts : List Tok) : Prop := ∀ t ∈ ts, t.kind ≠ 4 → wt t.text = 0
variable {ts us : List Tok}
theorem now_at {s : PS} (hb : s.bad = false) (hp : s.pos < ts.length) : now ts s = ts[s.pos] := by
  unfold now
  rw [hb, List.getElem?_eq_getElem hp]
  rfl
theorem now_ext {s : PS} (hp : s.pos < ts.length) : now (ts ++ us) s = now ts s := by
  unfold now
  rw [List.getElem?_append_left hp]
theorem isT_ext {s : PS} (hp : s.pos < ts.length) (x : List UInt8) : isT (ts ++ us) s x = isT ts s x := by
  unfold isT
  rw [now_ext hp]
theorem isT_text {s : PS} {x : List UInt8} (h : isT ts s x = true) : (now ts s).text = x := by
  unfold isT at h
  simp only [Bool.and_eq_true, decide_eq_true_eq] at h
  exact h.1
theorem isT_bal {s : PS} {x : List UInt8} (h : isT ts s x = true) : bal ts (s.pos + 1) = bal ts s.pos + wt x := by
  have h1 := isT_here h
  rw [bal_step h1.2, ← now_at h1.1 h1.2, isT_text h]
theorem kind_bal (hn : NoBr ts) {s : PS} (h : (now ts s).kind ≠ 0) (h4 : (now ts s).kind ≠ 4) : bal ts (s.pos + 1) = bal ts s.pos := by
  have h1 := now_here h
  rw [now_at h1.1 h1.2] at h4
  rw [bal_step h1.2, hn _ (List.getElem_mem h1.2) h4]
  omega
theorem want1_fine {s : PS} {x : List UInt8} (h : (want1 ts s x).bad = false) : s.bad = false ∧ (want1 ts s x).pos = s.pos + 1 ∧ s.pos + 1 ≤ ts.length ∧ bal ts (want1 ts s x).pos = bal ts s.pos + wt x ∧ want1 (ts ++ us) s x = want1 ts s x := by
  unfold want1 at h ⊢
  by_cases hi : isT ts s x = true
  · have h1 := isT_here hi
    rw [isT_ext h1.2, if_pos hi]
    exact ⟨h1.1, rfl, h1.2, isT_bal hi, rfl⟩
  · rw [if_neg hi] at h
    cases h
theorem name_fine (hn : NoBr ts) {s : PS} (h : (name ts s).2.bad = false) : s.bad = false ∧ (name ts s).2.pos = s.pos + 1 ∧ s.pos + 1 ≤ ts.length ∧ bal ts (name ts s).2.pos = bal ts s.pos ∧ name (ts ++ us) s = name ts s := by
  unfold name at h ⊢
  by_cases hi : (now ts s).kind = 1
  · have h1 := now_here (ts := ts) (s := s) (by rw [hi]; decide)
    rw [now_ext h1.2, if_pos hi]
    exact ⟨h1.1, rfl, h1.2, kind_bal hn (by rw [hi]; decide) (by rw [hi]; decide), rfl⟩
  · rw [if_neg hi] at h
    cases h
theorem types_fine {s : PS} (h : (types ts s).2.bad = false) : s.bad = false ∧ (types ts s).2.pos = s.pos + 1 ∧ s.pos + 1 ≤ ts.length ∧ bal ts (types ts s).2.pos = bal ts s.pos ∧ types (ts ++ us) s = types ts s := by
  unfold types at h ⊢
  by_cases hi : isT ts s wInt = true
  · have h1 := isT_here hi
    rw [isT_ext h1.2, isT_ext h1.2, if_pos hi]
    exact ⟨h1.1, rfl, h1.2, by show bal ts (s.pos + 1) = _; rw [isT_bal hi]; show _ + 0 = _; omega, rfl⟩
  rw [if_neg hi] at h ⊢
  by_cases hj : isT ts s wBool = true
  · have h1 := isT_here hj
    rw [isT_ext h1.2, isT_ext h1.2, if_neg hi, if_pos hj]
    exact ⟨h1.1, rfl, h1.2, by show bal ts (s.pos + 1) = _; rw [isT_bal hj]; show _ + 0 = _; omega, rfl⟩
  · rw [if_neg hj] at h
    cases h
/-- a hand that is right: how far it goes at least, what it does to the braces, and that a longer row is read alike -/
def Fine {α : Type} (ts : List Tok) (n : Nat) (f g : PS → α × PS) (k : Int) (c d : Nat) : Prop :=
  ∀ s, s.pos ≤ ts.length → ts.length + 1 ≤ s.pos + n → (f s).2.bad = false →
    s.bad = false ∧ s.pos + c ≤ (f s).2.pos ∧ (f s).2.pos ≤ ts.length ∧ bal ts (f s).2.pos = bal ts s.pos + k ∧ ((f s).2.pos < ts.length + d → g s = f s)
variable {α : Type}
theorem Fine.more {n m : Nat} {f g : PS → α × PS} {k : Int} {c d : Nat} (h : Fine ts n f g k c d) (hm : m ≤ n) : Fine ts m f g k c d := fun s h1 h2 h3 => h s h1 (by omega) h3
theorem within_fine {n : Nat} {f g : PS → α × PS} {k : Int} {c d : Nat} (x : α) (h : Fine ts n f g k c d) : Fine ts n (fun s => within s f x) (fun s => within s g x) k c d := fun s h1 h2 h3 => by
  show s.bad = false ∧ _ ≤ (within s f x).2.pos ∧ (within s f x).2.pos ≤ _ ∧ bal ts (within s f x).2.pos = _ ∧ ((within s f x).2.pos < _ → within s g x = within s f x)
  replace h3 : (within s f x).2.bad = false := h3
  unfold within at h3 ⊢
  by_cases hi : (s.bad || decide (90 < s.deep + 1)) = true
  · rw [if_pos hi] at h3
    cases h3
  · rw [if_neg hi] at h3
    rw [if_neg hi, if_neg hi]
    have h4 := h ⟨s.pos, s.deep + 1, false⟩ h1 h2 h3
    refine ⟨?_, h4.2.1, h4.2.2.1, h4.2.2.2.1, fun h5 => ?_⟩
    · cases hb : s.bad with
      | false => rfl
      | true => rw [hb] at hi; exact absurd rfl hi
    · rw [h4.2.2.2.2 h5]
theorem rounds_fine {n0 : Nat} {f g : PS → α × PS} {e : List UInt8} (he : wt e = 0) (h : Fine ts n0 f g 0 1 0) : ∀ n m, n ≤ n0 → n ≤ m → Fine ts n (rounds ts e f n) (rounds (ts ++ us) e g m) 0 1 1
  | 0, m, _, _ => fun s h1 h2 _ => by omega
  | n + 1, m, hn, hm => fun s h1 h2 h3 => by
    obtain ⟨m, rfl⟩ : ∃ q, m = q + 1 := ⟨m - 1, by omega⟩
    unfold rounds at h3 ⊢
    by_cases hb : s.bad = true
    · rw [if_pos hb] at h3
      exact absurd (hb.symm.trans h3) (by decide)
    rw [if_neg hb] at h3
    rw [if_neg hb, if_neg hb]
    by_cases hi : isT ts (f s).2 e = true
    · rw [if_pos hi] at h3
      rw [if_pos hi]
      have h4 := isT_here hi
      have h5 := h s h1 (by omega) h4.1
      refine ⟨h5.1, by show s.pos + 1 ≤ (f s).2.pos + 1; omega, h4.2, ?_, fun _ => ?_⟩
      · show bal ts ((f s).2.pos + 1) = _
        rw [isT_bal hi, h5.2.2.2.1, he]
        omega
      · rw [h5.2.2.2.2 (by omega), isT_ext h4.2, if_pos hi]
    · rw [if_neg hi] at h3
      rw [if_neg hi]
      have hw : (want1 ts (f s).2 [44]).bad = false := by
        cases hw : (want1 ts (f s).2 [44]).bad with
        | false => rfl
        | true =>
          exfalso
          have : ∀ k, (rounds ts e f k (want1 ts (f s).2 [44])).2.bad = true := fun k => by
            cases k with
            | zero => exact hw
            | succ k => unfold rounds; rw [if_pos hw]; exact hw
          exact absurd (this n) (by rw [show (rounds ts e f n (want1 ts (f s).2 [44])).2.bad = false from h3]; decide)
      have h6 := want1_fine (us := us) hw
      have h5 := h s h1 (by omega) h6.1
      have h7 := rounds_fine he h n m (by omega) (by omega) _ (by omega) (by omega) h3
      refine ⟨h5.1, by show s.pos + 1 ≤ (rounds ts e f n (want1 ts (f s).2 [44])).2.pos; omega, h7.2.2.1, ?_, fun h8 => ?_⟩
      · show bal ts (rounds ts e f n (want1 ts (f s).2 [44])).2.pos = _
        rw [h7.2.2.2.1, h6.2.2.2.1, h5.2.2.2.1]
        show _ + 0 + 0 + 0 = _
        omega
      · rw [h5.2.2.2.2 (by omega), isT_ext (by omega), if_neg hi, h6.2.2.2.2, h7.2.2.2.2 h8]
theorem list_fine {n0 : Nat} {f g : PS → α × PS} {e : List UInt8} (he : wt e = 0) (h : Fine ts n0 f g 0 1 0) (n m : Nat) (hn : n ≤ n0) (hm : n ≤ m) : Fine ts n (listOf ts e f n) (listOf (ts ++ us) e g m) 0 1 1 := fun s h1 h2 h3 => by
  have hr := rounds_fine (us := us) he h n m hn hm s h1 h2
  unfold listOf at h3 ⊢
  by_cases hi : isT ts s e = true
  · rw [if_pos hi] at h3
    have h4 := isT_here hi
    rw [if_pos hi, isT_ext h4.2, if_pos hi]
    exact ⟨h4.1, Nat.le_refl _, h4.2, by show bal ts (s.pos + 1) = _; rw [isT_bal hi, he], fun _ => rfl⟩
  · rw [if_neg hi] at h3 
    rw [if_neg hi]
    have h4 := hr h3
    refine ⟨h4.1, h4.2.1, h4.2.2.1, h4.2.2.2.1, fun h8 => ?_⟩
    rw [isT_ext (by omega), if_neg hi, h4.2.2.2.2 h8]
theorem till_fine {n0 : Nat} {f g : PS → α × PS} {e : List UInt8} (eat : Bool) (h : Fine ts n0 f g 0 1 1) : ∀ n m, n ≤ n0 → n ≤ m → Fine ts n (till ts e eat f n) (till (ts ++ us) e eat g m) (if eat then wt e else 0) 0 1
  | 0, m, _, _ => fun s h1 h2 _ => by omega
  | n + 1, m, hn, hm => fun s h1 h2 h3 => by
    obtain ⟨m, rfl⟩ : ∃ q, m = q + 1 := ⟨m - 1, by omega⟩
    unfold till at h3 ⊢
    by_cases hb : s.bad = true
    · rw [if_pos hb] at h3
      exact absurd (hb.symm.trans h3) (by decide)
    have hb' : s.bad = false := by
      cases h4 : s.bad with
      | false => rfl
      | true => exact absurd h4 hb
    rw [if_neg hb] at h3
    rw [if_neg hb, if_neg hb]
    by_cases hi : isT ts s e = true
    · rw [if_pos hi] at h3
      have h4 := isT_here hi
      rw [if_pos hi, isT_ext h4.2, if_pos hi]
      cases eat with
      | true => exact ⟨hb', by show s.pos + 0 ≤ s.pos + 1; omega, h4.2, by show bal ts (s.pos + 1) = bal ts s.pos + wt e; exact isT_bal hi, fun _ => rfl⟩
      | false => exact ⟨hb', Nat.le_refl _, h1, by show bal ts s.pos = bal ts s.pos + 0; omega, fun _ => rfl⟩
    · rw [if_neg hi] at h3
      rw [if_neg hi]
      have hw : (f s).2.bad = false := by
        cases hw : (f s).2.bad with
        | false => rfl
        | true =>
          exfalso
          have : ∀ k, (till ts e eat f k (f s).2).2.bad = true := fun k => by
            cases k with
            | zero => exact hw
            | succ k => unfold till; rw [if_pos hw]; exact hw
          exact absurd (this n) (by rw [show (till ts e eat f n (f s).2).2.bad = false from h3]; decide)
      have h5 := h s h1 (by omega) hw
      have h7 := till_fine eat h n m (by omega) (by omega) _ (by omega) (by omega) h3
      refine ⟨hb', by show s.pos + 0 ≤ (till ts e eat f n (f s).2).2.pos; omega, h7.2.2.1, ?_, fun h8 => ?_⟩
      · show bal ts (till ts e eat f n (f s).2).2.pos = _
        rw [h7.2.2.2.1, h5.2.2.2.1]
        omega
      · rw [h5.2.2.2.2 (by omega), isT_ext (by omega), if_neg hi, h7.2.2.2.2 h8]
theorem callOf_fine (hn : NoBr ts) {n0 : Nat} {f g : PS → Tr × PS} (h : Fine ts n0 f g 0 1 0) (n m : Nat) (h1 : n ≤ n0) (h2 : n ≤ m) (mod : List UInt8) : Fine ts n (callOf ts f n mod) (callOf (ts ++ us) g m mod) 0 1 1 := fun s p1 p2 p3 => by
  have ha : Fine ts n (argsOf ts f n) (argsOf (ts ++ us) g m) 0 1 1 := fun q q1 q2 q3 => by
    have l2 := list_fine (us := us) (e := [41]) rfl h n m h1 h2
    have hw : (want1 ts q [40]).bad = false := by
      cases hw : (want1 ts q [40]).bad with
      | false => rfl
      | true =>
        exfalso
        have e2 : (argsOf ts f n q).2.bad = true := by
          unfold argsOf listOf
          rw [if_neg (by rw [isT_bad hw]; decide)]
          cases n with
          | zero => exact hw
          | succ k => unfold rounds; rw [if_pos hw]; exact hw
        rw [q3] at e2
        cases e2
    have w := want1_fine (us := us) hw
    have l3 := l2 (want1 ts q [40]) (by omega) (by omega) q3
    refine ⟨w.1, by show q.pos + 1 ≤ (listOf ts [41] f n (want1 ts q [40])).2.pos; omega, l3.2.2.1, ?_, fun h8 => ?_⟩
    · show bal ts (listOf ts [41] f n (want1 ts q [40])).2.pos = _
      rw [l3.2.2.2.1, w.2.2.2.1]
      show _ + 0 + 0 = _
      omega
    · show listOf (ts ++ us) [41] g m (want1 (ts ++ us) q [40]) = listOf ts [41] f n (want1 ts q [40])
      rw [w.2.2.2.2, l3.2.2.2.2 h8]
  have hw := within_fine (x := []) ha
  obtain ⟨b, hb⟩ : ∃ b, b = name ts (want1 ts s [46]) := ⟨_, rfl⟩
  have p3' : (within b.2 (argsOf ts f n) []).2.bad = false := by rw [hb]; exact p3
  have nb : b.2.bad = false := (within_goes [] _ p3').1
  have nm := name_fine (us := us) hn (s := want1 ts s [46]) (by rw [← hb]; exact nb)
  have w := want1_fine (us := us) nm.1
  rw [← hb] at nm
  have r := hw b.2 (by omega) (by omega) p3'
  simp only at r
  have e1 : (callOf ts f n mod s) = (.mk 19 [] 0 0 mod b.1 (within b.2 (argsOf ts f n) []).1, (within b.2 (argsOf ts f n) []).2) := by rw [hb]; rfl
  rw [e1]
  refine ⟨w.1, by show s.pos + 1 ≤ (within b.2 (argsOf ts f n) []).2.pos; omega, r.2.2.1, ?_, fun h8 => ?_⟩
  · show bal ts (within b.2 (argsOf ts f n) []).2.pos = _
    rw [r.2.2.2.1, nm.2.2.2.1, w.2.2.2.1]
    show _ + 0 + 0 = _
    omega
  · have e2 : callOf (ts ++ us) g m mod s = (.mk 19 [] 0 0 mod (name (ts ++ us) (want1 (ts ++ us) s [46])).1 (within (name (ts ++ us) (want1 (ts ++ us) s [46])).2 (argsOf (ts ++ us) g m) []).1, (within (name (ts ++ us) (want1 (ts ++ us) s [46])).2 (argsOf (ts ++ us) g m) []).2) := rfl
    rw [e2, w.2.2.2.2, nm.2.2.2.2, r.2.2.2.2 h8]
end Gr
end Go.Proofs.YtljdphpbalioaaaGreatDoor
/- Plain: expressions, statements, functions, modules on a row of tokens and on a longer one. -/
namespace Go.Proofs.YtljdphpbalioaaaGreatDoor
open Go.RowKit

namespace Gr
variable {ts us : List Tok}
theorem bad_or (s : PS) : s.bad = true ∨ s.bad = false := by cases s.bad <;> simp
theorem expr_fine (hn : NoBr ts) : ∀ n m, n ≤ m → Fine ts n (expr ts n) (expr (ts ++ us) m) 0 1 0
  | 0, m, _ => fun s h1 h2 _ => by omega
  | n + 1, m, hm => fun s h1 h2 h3 => by
    obtain ⟨m, rfl⟩ : ∃ q, m = q + 1 := ⟨m - 1, by omega⟩
    have ih := expr_fine hn n m (by omega)
    have h4 : s.bad = false ∧ s.pos < ts.length := by
      refine ⟨?_, ?_⟩
      · rcases bad_or s with hb | hb
        · rw [expr_bad hb] at h3; exact h3
        · exact hb
      · by_cases hp : s.pos < ts.length
        · exact hp
        · exfalso
          have e0 : now ts s = ⟨0, [], 0⟩ := by
            unfold now
            rw [List.getElem?_eq_none (by omega)]
            cases s.bad <;> rfl
          have e1 : ∀ x, isT ts s x = false := fun x => by unfold isT; rw [e0]; simp
          unfold expr at h3
          rw [e0] at h3
          simp only [e1] at h3
          simp at h3
          cases h3
    obtain ⟨hb, hp⟩ := h4
    have e0 := now_ext (us := us) hp
    have e1 : ∀ x, isT (ts ++ us) s x = isT ts s x := fun x => isT_ext hp x
    have lf : ∀ t : Tr, bal ts (s.pos + 1) = bal ts s.pos → s.bad = false ∧ s.pos + 1 ≤ (t, PS.adv s).2.pos ∧ (t, PS.adv s).2.pos ≤ ts.length ∧ bal ts (t, PS.adv s).2.pos = bal ts s.pos + 0 ∧ ((t, PS.adv s).2.pos < ts.length + 0 → (t, PS.adv s) = (t, PS.adv s)) := fun t ht =>
      ⟨hb, Nat.le_refl _, hp, by show bal ts (s.pos + 1) = _; omega, fun _ => rfl⟩
    have lt : ∀ {x}, isT ts s x = true → wt x = 0 → bal ts (s.pos + 1) = bal ts s.pos := fun h w => by rw [isT_bal h, w]; omega
    unfold expr at h3 ⊢
    rw [e0]
    simp only [e1]
    by_cases k2 : (now ts s).kind = 2
    · rw [if_pos k2, if_pos k2]
      exact lf _ (kind_bal hn (by rw [k2]; decide) (by rw [k2]; decide))
    rw [if_neg k2] at h3
    rw [if_neg k2, if_neg k2]
    by_cases k1 : (now ts s).kind = 1
    · rw [if_pos k1] at h3
      rw [if_pos k1, if_pos k1]
      have kb := kind_bal hn (s := s) (by rw [k1]; decide) (by rw [k1]; decide)
      by_cases hd : isT ts (PS.adv s) [46] = true
      · rw [if_pos hd] at h3
        have hq := (isT_here hd).2
        rw [if_pos hd, isT_ext hq, if_pos hd]
        have h5 := callOf_fine hn (us := us) ih n m (Nat.le_refl _) (by omega) (now ts s).text (PS.adv s) hp (by show _ ≤ s.pos + 1 + n; omega) h3
        have h6 : (PS.adv s).pos = s.pos + 1 := rfl
        rw [h6] at h5
        exact ⟨hb, by omega, h5.2.2.1, by rw [h5.2.2.2.1, kb], fun h => h5.2.2.2.2 (by omega)⟩
      · rw [if_neg hd] at h3
        rw [if_neg hd]
        refine ⟨hb, Nat.le_refl _, hp, by show bal ts (s.pos + 1) = _; omega, fun h => ?_⟩
        rw [isT_ext (show (PS.adv s).pos < ts.length from h), if_neg hd]
    rw [if_neg k1] at h3
    rw [if_neg k1, if_neg k1]
    by_cases c1 : isT ts s wTrue = true
    · rw [if_pos c1, if_pos c1]; exact lf _ (lt c1 rfl)
    rw [if_neg c1] at h3
    rw [if_neg c1, if_neg c1]
    by_cases c2 : isT ts s wFalse = true
    · rw [if_pos c2, if_pos c2]; exact lf _ (lt c2 rfl)
    rw [if_neg c2] at h3
    rw [if_neg c2, if_neg c2]
    by_cases c3 : isT ts s wRead = true
    · rw [if_pos c3, if_pos c3]; exact lf _ (lt c3 rfl)
    rw [if_neg c3] at h3
    rw [if_neg c3, if_neg c3]
    have one : ∀ k : Nat, (within (PS.adv s) (oneOf (expr ts n)) []).2.bad = false → bal ts (s.pos + 1) = bal ts s.pos → s.bad = false ∧ s.pos + 1 ≤ (within (PS.adv s) (oneOf (expr ts n)) []).2.pos ∧ (within (PS.adv s) (oneOf (expr ts n)) []).2.pos ≤ ts.length ∧
        bal ts (within (PS.adv s) (oneOf (expr ts n)) []).2.pos = bal ts s.pos + 0 ∧ ((within (PS.adv s) (oneOf (expr ts n)) []).2.pos < ts.length + 0 → (Tr.mk k [] 0 0 [] [] (within (PS.adv s) (oneOf (expr (ts ++ us) m)) []).1, (within (PS.adv s) (oneOf (expr (ts ++ us) m)) []).2) = (Tr.mk k [] 0 0 [] [] (within (PS.adv s) (oneOf (expr ts n)) []).1, (within (PS.adv s) (oneOf (expr ts n)) []).2)) := fun k hk kb => by
      have ho : Fine ts n (oneOf (expr ts n)) (oneOf (expr (ts ++ us) m)) 0 1 0 := fun q q1 q2 q3 => by
        have := ih q q1 q2 q3
        refine ⟨this.1, this.2.1, this.2.2.1, this.2.2.2.1, fun h => ?_⟩
        show ([(expr (ts ++ us) m q).1], (expr (ts ++ us) m q).2) = ([(expr ts n q).1], (expr ts n q).2)
        rw [this.2.2.2.2 h]
      have h5 := within_fine (x := []) ho (PS.adv s) hp (by show _ ≤ s.pos + 1 + n; omega) hk
      have h6 : (PS.adv s).pos = s.pos + 1 := rfl
      simp only [h6] at h5
      exact ⟨hb, by omega, h5.2.2.1, by rw [h5.2.2.2.1, kb], fun h => by rw [h5.2.2.2.2 h]⟩
    by_cases c4 : isT ts s [33] = true
    · rw [if_pos c4] at h3
      rw [if_pos c4, if_pos c4]
      exact one 16 h3 (lt c4 rfl)
    rw [if_neg c4] at h3
    rw [if_neg c4, if_neg c4]
    by_cases c5 : isT ts s [45] = true
    · rw [if_pos c5] at h3
      rw [if_pos c5, if_pos c5]
      exact one 17 h3 (lt c5 rfl)
    rw [if_neg c5] at h3
    rw [if_neg c5, if_neg c5]
    by_cases c6 : isT ts s [40] = true
    · rw [if_pos c6] at h3
      rw [if_pos c6, if_pos c6]
      have hbo : Fine ts n (binOf ts (expr ts n)) (binOf (ts ++ us) (expr (ts ++ us) m)) 0 1 1 := fun q q1 q2 q3 => by
        obtain ⟨a, ha⟩ : ∃ a, a = expr ts n q := ⟨_, rfl⟩
        have eF : binOf ts (expr ts n) q = ((opNum (now ts a.2).text, [a.1, (expr ts n ⟨a.2.pos + 1, a.2.deep, a.2.bad || decide (opNum (now ts a.2).text = 0)⟩).1]), want1 ts (expr ts n ⟨a.2.pos + 1, a.2.deep, a.2.bad || decide (opNum (now ts a.2).text = 0)⟩).2 [41]) := by rw [ha]; rfl
        obtain ⟨o, ho⟩ : ∃ o, o = opNum (now ts a.2).text := ⟨_, rfl⟩
        rw [← ho] at eF
        rw [eF] at q3 ⊢
        obtain ⟨r, hr⟩ : ∃ r, r = (⟨a.2.pos + 1, a.2.deep, a.2.bad || decide (o = 0)⟩ : PS) := ⟨_, rfl⟩
        rw [← hr] at q3 ⊢ 
        have w := want1_fine (us := us) q3
        have hrb : r.bad = false := by
          rcases bad_or r with hb2 | hb2
          · have := w.1
            rw [expr_bad hb2] at this
            exact this
          · exact hb2
        have hab : a.2.bad = false ∧ o ≠ 0 := by
          rw [hr] at hrb
          simp only [Bool.or_eq_false_iff, decide_eq_false_iff_not] at hrb
          exact hrb
        have h5 := ih q q1 q2 (by rw [← ha]; exact hab.1)
        rw [← ha] at h5
        have hk : a.2.pos < ts.length := by
          by_cases hp2 : a.2.pos < ts.length
          · exact hp2
          · exfalso
            apply hab.2
            have : now ts a.2 = ⟨0, [], 0⟩ := by unfold now; rw [hab.1, List.getElem?_eq_none (by omega)]; rfl
            rw [ho, this]
            exact ops_nil
        have hrp : r.pos = a.2.pos + 1 := by rw [hr]
        have h6 := ih r (by omega) (by omega) w.1
        have hob : bal ts (a.2.pos + 1) = bal ts a.2.pos := by
          have hw0 : ∀ x : List UInt8, opNum x ≠ 0 → wt x = 0 := fun x hx => by
            unfold wt
            by_cases e1 : x = [123]
            · rw [e1] at hx; exact absurd (by decide) hx
            by_cases e2 : x = [125]
            · rw [e2] at hx; exact absurd (by decide) hx
            rw [if_neg e1, if_neg e2]
          rw [bal_step hk, ← now_at hab.1 hk, hw0 _ (by rw [← ho]; exact hab.2)]
          omega
        refine ⟨h5.1, by show q.pos + 1 ≤ (want1 ts (expr ts n r).2 [41]).pos; omega, by show (want1 ts (expr ts n r).2 [41]).pos ≤ _; omega, ?_, fun _ => ?_⟩
        · show bal ts (want1 ts (expr ts n r).2 [41]).pos = _
          rw [w.2.2.2.1, h6.2.2.2.1, hrp, hob, h5.2.2.2.1]
          show _ + 0 + 0 + 0 = _
          omega
        · have e3 : expr (ts ++ us) m q = a := h5.2.2.2.2 (by omega)
          have eG : binOf (ts ++ us) (expr (ts ++ us) m) q = ((opNum (now (ts ++ us) a.2).text, [a.1, (expr (ts ++ us) m ⟨a.2.pos + 1, a.2.deep, a.2.bad || decide (opNum (now (ts ++ us) a.2).text = 0)⟩).1]), want1 (ts ++ us) (expr (ts ++ us) m ⟨a.2.pos + 1, a.2.deep, a.2.bad || decide (opNum (now (ts ++ us) a.2).text = 0)⟩).2 [41]) := by rw [← e3]; rfl
          rw [eG, now_ext hk, ← ho, ← hr, h6.2.2.2.2 (by omega), w.2.2.2.2]
      have h5 := within_fine (x := (0, [])) hbo (PS.adv s) hp (by show _ ≤ s.pos + 1 + n; omega) h3
      have h6 : (PS.adv s).pos = s.pos + 1 := rfl
      simp only [h6] at h5
      exact ⟨hb, by show s.pos + 1 ≤ (within (PS.adv s) (binOf ts (expr ts n)) (0, [])).2.pos; omega, h5.2.2.1, by show bal ts (within (PS.adv s) (binOf ts (expr ts n)) (0, [])).2.pos = _; rw [h5.2.2.2.1, lt c6 rfl], fun h => by rw [h5.2.2.2.2 (by have h7 : (within (PS.adv s) (binOf ts (expr ts n)) (0, [])).2.pos < ts.length + 0 := h; omega)]⟩
    · rw [if_neg c6] at h3
      cases h3
theorem blockOf_fine {n0 : Nat} {f g : PS → Tr × PS} (h : Fine ts n0 f g 0 1 1) (n m : Nat) (h1 : n ≤ n0) (h2 : n ≤ m) : Fine ts n (blockOf ts f n) (blockOf (ts ++ us) g m) 0 1 1 := fun s p1 p2 p3 => by
  have hi : Fine ts n (fun s => till ts [125] true f n (want1 ts s [123])) (fun s => till (ts ++ us) [125] true g m (want1 (ts ++ us) s [123])) 0 1 1 := fun q q1 q2 q3 => by
    replace q3 : (till ts [125] true f n (want1 ts q [123])).2.bad = false := q3
    have hw : (want1 ts q [123]).bad = false := by
      rcases bad_or (want1 ts q [123]) with hw | hw
      · exfalso
        cases n with
        | zero => omega
        | succ k =>
          unfold till at q3
          rw [if_pos hw] at q3
          exact absurd (hw.symm.trans q3) (by decide)
      · exact hw
    have w := want1_fine (us := us) hw
    have t := till_fine (us := us) (e := [125]) true h n m h1 h2 (want1 ts q [123]) (by omega) (by omega) q3
    refine ⟨w.1, by show q.pos + 1 ≤ (till ts [125] true f n (want1 ts q [123])).2.pos; omega, t.2.2.1, ?_, fun h8 => ?_⟩
    · show bal ts (till ts [125] true f n (want1 ts q [123])).2.pos = _
      rw [t.2.2.2.1, w.2.2.2.1]
      show _ + 1 + -1 = _
      omega
    · show till (ts ++ us) [125] true g m (want1 (ts ++ us) q [123]) = till ts [125] true f n (want1 ts q [123])
      rw [w.2.2.2.2, t.2.2.2.2 h8]
  have r := within_fine (x := []) hi s p1 p2 p3
  refine ⟨r.1, r.2.1, r.2.2.1, r.2.2.2.1, fun h8 => ?_⟩
  show (Tr.mk 5 [] 0 0 [] [] (within s (fun s => till (ts ++ us) [125] true g m (want1 (ts ++ us) s [123])) []).1, (within s (fun s => till (ts ++ us) [125] true g m (want1 (ts ++ us) s [123])) []).2) = (Tr.mk 5 [] 0 0 [] [] (within s (fun s => till ts [125] true f n (want1 ts s [123])) []).1, (within s (fun s => till ts [125] true f n (want1 ts s [123])) []).2)
  have h9 := r.2.2.2.2 h8
  simp only at h9
  rw [h9]
end Gr
end Go.Proofs.YtljdphpbalioaaaGreatDoor
/- Plain: programs on a row of tokens and on a longer one. -/
namespace Go.Proofs.YtljdphpbalioaaaGreatDoor
open Go.RowKit

namespace Gr
variable {ts us : List Tok}
theorem stmt_fine (hn : NoBr ts) (m m' : Nat) (hm : m ≤ m') : ∀ n n', n ≤ m → n ≤ n' → Fine ts n (stmt ts m n) (stmt (ts ++ us) m' n') 0 1 1
  | 0, n', _, _ => fun s h1 h2 _ => by omega
  | n + 1, n', hnm, hnn => fun s p1 p2 h => by
    obtain ⟨n', rfl⟩ : ∃ q, n' = q + 1 := ⟨n' - 1, by omega⟩
    have ih := stmt_fine hn m m' hm n n' (by omega) (by omega)
    have hb := blockOf_fine (us := us) ih n n' (Nat.le_refl _) (by omega)
    have he := expr_fine (us := us) hn m m' hm
    have hc := callOf_fine (us := us) hn he m m' (Nat.le_refl _) hm
    have ha : (PS.adv s).pos = s.pos + 1 := rfl
    have hae : ∀ {x}, isT ts s x = true → s.bad = false ∧ s.pos < ts.length := fun h => isT_here h
    have key : s.bad = false ∧ s.pos < ts.length := by
      by_cases hh : s.bad = false ∧ s.pos < ts.length
      · exact hh
      · exfalso
        have e0 : now ts s = ⟨0, [], 0⟩ := by
          unfold now
          rcases bad_or s with h5 | h5
          · rw [h5]; rfl
          · rw [h5, List.getElem?_eq_none (by by_cases h6 : s.pos < ts.length; exact absurd ⟨h5, h6⟩ hh; omega)]; rfl
        have e1 : ∀ x, isT ts s x = false := fun x => by unfold isT; rw [e0]; simp
        rw [stmt_set (e1 _) (e1 _) (e1 _) (e1 _) (e1 _)] at h
        have g1 := want1_fine (us := us) h
        have g2 := (he (want1 ts (name ts s).2 [61])) 
        have e2 : name ts s = ([], PS.fail s) := by unfold name; rw [if_neg (by rw [e0]; decide)]
        rw [e2, want1_bad (s := PS.fail s) rfl, expr_bad (s := PS.fail s) rfl, want1_bad (s := PS.fail s) rfl] at h
        cases h
    obtain ⟨hb0, hp⟩ := key
    have e1 : ∀ x, isT (ts ++ us) s x = isT ts s x := fun x => isT_ext hp x
    have wz : ∀ {x}, isT ts s x = true → wt x = 0 → bal ts (PS.adv s).pos = bal ts s.pos := fun h w => by rw [ha, isT_bal h, w]; omega
    unfold stmt at h ⊢
    dsimp only at h
    simp only [e1]
    by_cases c1 : isT ts s wLet = true
    · rw [if_pos c1] at h
      rw [if_pos c1, if_pos c1]
      obtain ⟨a, hA⟩ : ∃ a, a = name ts (PS.adv s) := ⟨_, rfl⟩
      obtain ⟨b, hB⟩ : ∃ b, b = types ts a.2 := ⟨_, rfl⟩
      obtain ⟨q, hQ⟩ : ∃ q, q = want1 ts b.2 [61] := ⟨_, rfl⟩
      obtain ⟨e, hE⟩ : ∃ e, e = expr ts m q := ⟨_, rfl⟩
      rw [← hA, ← hB, ← hQ, ← hE] at h ⊢
      have g1 := want1_fine (us := us) h
      have g2 : q.bad = false := by
        rcases bad_or q with h5 | h5
        · have := g1.1; rw [hE, expr_bad h5] at this; exact this
        · exact h5
      have g3 := want1_fine (us := us) (s := b.2) (x := [61]) (by rw [← hQ]; exact g2)
      rw [← hQ] at g3
      have g4 := types_fine (us := us) (s := a.2) (by rw [← hB]; exact g3.1)
      rw [← hB] at g4
      have g5 := name_fine (us := us) hn (s := PS.adv s) (by rw [← hA]; exact g4.1)
      rw [← hA] at g5
      have g6 := he q (by omega) (by omega) (by rw [← hE]; exact g1.1)
      rw [← hE] at g6
      refine ⟨hb0, by show s.pos + 1 ≤ (want1 ts e.2 [59]).pos; omega, by show (want1 ts e.2 [59]).pos ≤ _; omega, ?_, fun _ => ?_⟩
      · show bal ts (want1 ts e.2 [59]).pos = _
        rw [g1.2.2.2.1, g6.2.2.2.1, g3.2.2.2.1, g4.2.2.2.1, g5.2.2.2.1, wz c1 rfl]
        show _ + 0 + 0 + 0 = _
        omega
      · rw [g5.2.2.2.2, g4.2.2.2.2, g3.2.2.2.2, g6.2.2.2.2 (by omega), g1.2.2.2.2]
    rw [if_neg c1] at h
    rw [if_neg c1, if_neg c1]
    by_cases c2 : isT ts s wIf = true
    · rw [if_pos c2] at h
      rw [if_pos c2, if_pos c2]
      obtain ⟨e, hE⟩ : ∃ e, e = expr ts m (PS.adv s) := ⟨_, rfl⟩
      obtain ⟨b, hB⟩ : ∃ b, b = blockOf ts (stmt ts m n) n e.2 := ⟨_, rfl⟩
      obtain ⟨q, hQ⟩ : ∃ q, q = want1 ts b.2 wElse := ⟨_, rfl⟩
      obtain ⟨c, hC⟩ : ∃ c, c = blockOf ts (stmt ts m n) n q := ⟨_, rfl⟩
      rw [← hE, ← hB, ← hQ, ← hC] at h ⊢
      have i1 : q.bad = false := by
        rcases bad_or q with h5 | h5
        · rw [hC] at h; exact (within_goes [] q h).1
        · exact h5
      have i2 := want1_fine (us := us) (s := b.2) (x := wElse) (by rw [← hQ]; exact i1)
      rw [← hQ] at i2
      have i3 : e.2.bad = false := (within_goes (f := fun s => till ts [125] true (stmt ts m n) n (want1 ts s [123])) [] e.2 (by have := i2.1; rw [hB] at this; exact this)).1
      have i4 := he (PS.adv s) hp (by omega) (by rw [← hE]; exact i3)
      rw [← hE] at i4
      have i5 := hb e.2 (by omega) (by omega) (by rw [← hB]; exact i2.1)
      rw [← hB] at i5
      have i6 := hb q (by omega) (by omega) (by rw [← hC]; exact h)
      rw [← hC] at i6
      refine ⟨hb0, by show s.pos + 1 ≤ c.2.pos; omega, by show c.2.pos ≤ _; omega, ?_, fun h8 => ?_⟩
      · show bal ts c.2.pos = _
        rw [i6.2.2.2.1, i2.2.2.2.1, i5.2.2.2.1, i4.2.2.2.1, wz c2 rfl]
        show _ + 0 + 0 + 0 + 0 = _
        omega
      · have h9 : c.2.pos < ts.length + 1 := h8
        rw [i4.2.2.2.2 (by omega), i5.2.2.2.2 (by omega), i2.2.2.2.2, i6.2.2.2.2 h9]
    rw [if_neg c2] at h
    rw [if_neg c2, if_neg c2]
    by_cases c3 : isT ts s wWhile = true
    · rw [if_pos c3] at h
      rw [if_pos c3, if_pos c3]
      obtain ⟨e, hE⟩ : ∃ e, e = expr ts m (PS.adv s) := ⟨_, rfl⟩
      obtain ⟨b, hB⟩ : ∃ b, b = blockOf ts (stmt ts m n) n e.2 := ⟨_, rfl⟩
      rw [← hE, ← hB] at h ⊢
      have i3 : e.2.bad = false := (within_goes (f := fun s => till ts [125] true (stmt ts m n) n (want1 ts s [123])) [] e.2 (by have := h; rw [hB] at this; exact this)).1
      have i4 := he (PS.adv s) hp (by omega) (by rw [← hE]; exact i3)
      rw [← hE] at i4
      have i5 := hb e.2 (by omega) (by omega) (by rw [← hB]; exact h)
      rw [← hB] at i5
      refine ⟨hb0, by show s.pos + 1 ≤ b.2.pos; omega, by show b.2.pos ≤ _; omega, ?_, fun h8 => ?_⟩
      · show bal ts b.2.pos = _
        rw [i5.2.2.2.1, i4.2.2.2.1, wz c3 rfl]
        omega
      · have h9 : b.2.pos < ts.length + 1 := h8
        rw [i4.2.2.2.2 (by omega), i5.2.2.2.2 (by omega)]
    rw [if_neg c3] at h
    rw [if_neg c3, if_neg c3]
    by_cases c4 : isT ts s wPrint = true
    · rw [if_pos c4] at h
      rw [if_pos c4, if_pos c4]
      obtain ⟨e, hE⟩ : ∃ e, e = expr ts m (PS.adv s) := ⟨_, rfl⟩
      rw [← hE] at h ⊢
      have g1 := want1_fine (us := us) h
      have i4 := he (PS.adv s) hp (by omega) (by rw [← hE]; exact g1.1)
      rw [← hE] at i4
      refine ⟨hb0, by show s.pos + 1 ≤ (want1 ts e.2 [59]).pos; omega, by show (want1 ts e.2 [59]).pos ≤ _; omega, ?_, fun h8 => ?_⟩
      · show bal ts (want1 ts e.2 [59]).pos = _
        rw [g1.2.2.2.1, i4.2.2.2.1, wz c4 rfl]
        show _ + 0 + 0 = _
        omega
      · rw [i4.2.2.2.2 (by omega), g1.2.2.2.2]
    rw [if_neg c4] at h
    rw [if_neg c4, if_neg c4]
    by_cases c5 : isT ts s wDo = true
    · rw [if_pos c5] at h
      rw [if_pos c5, if_pos c5]
      obtain ⟨a, hA⟩ : ∃ a, a = name ts (PS.adv s) := ⟨_, rfl⟩
      obtain ⟨e, hE⟩ : ∃ e, e = callOf ts (expr ts m) m a.1 a.2 := ⟨_, rfl⟩
      rw [← hA, ← hE] at h ⊢
      have g1 := want1_fine (us := us) h
      have g2 : a.2.bad = false := by
        have := (callOf_cn (ts := ts) (expr_cn (ts := ts) m) m a.1 a.2 (by rw [← hE]; exact g1.1)).1
        exact this
      have g5 := name_fine (us := us) hn (s := PS.adv s) (by rw [← hA]; exact g2)
      rw [← hA] at g5
      have i4 := hc a.1 a.2 (by omega) (by omega) (by rw [← hE]; exact g1.1)
      rw [← hE] at i4
      refine ⟨hb0, by show s.pos + 1 ≤ (want1 ts e.2 [59]).pos; omega, by show (want1 ts e.2 [59]).pos ≤ _; omega, ?_, fun h8 => ?_⟩
      · show bal ts (want1 ts e.2 [59]).pos = _
        rw [g1.2.2.2.1, i4.2.2.2.1, g5.2.2.2.1, wz c5 rfl]
        show _ + 0 + 0 = _
        omega
      · rw [g5.2.2.2.2, i4.2.2.2.2 (by omega), g1.2.2.2.2]
    · rw [if_neg c5] at h
      rw [if_neg c5, if_neg c5]
      obtain ⟨a, hA⟩ : ∃ a, a = name ts s := ⟨_, rfl⟩
      obtain ⟨q, hQ⟩ : ∃ q, q = want1 ts a.2 [61] := ⟨_, rfl⟩
      obtain ⟨e, hE⟩ : ∃ e, e = expr ts m q := ⟨_, rfl⟩
      rw [← hA, ← hQ, ← hE] at h ⊢
      have g1 := want1_fine (us := us) h
      have g2 : q.bad = false := by
        rcases bad_or q with h5 | h5
        · have := g1.1; rw [hE, expr_bad h5] at this; exact this
        · exact h5
      have g3 := want1_fine (us := us) (s := a.2) (x := [61]) (by rw [← hQ]; exact g2)
      rw [← hQ] at g3
      have g5 := name_fine (us := us) hn (s := s) (by rw [← hA]; exact g3.1)
      rw [← hA] at g5
      have g6 := he q (by omega) (by omega) (by rw [← hE]; exact g1.1)
      rw [← hE] at g6
      refine ⟨hb0, by show s.pos + 1 ≤ (want1 ts e.2 [59]).pos; omega, by show (want1 ts e.2 [59]).pos ≤ _; omega, ?_, fun _ => ?_⟩
      · show bal ts (want1 ts e.2 [59]).pos = _
        rw [g1.2.2.2.1, g6.2.2.2.1, g3.2.2.2.1, g5.2.2.2.1]
        show _ + 0 + 0 + 0 = _
        omega
      · rw [g5.2.2.2.2, g3.2.2.2.2, g6.2.2.2.2 (by omega), g1.2.2.2.2]
theorem param_fine (hn : NoBr ts) (n : Nat) : Fine ts n (param ts) (param (ts ++ us)) 0 1 0 := fun s p1 p2 h => by
  obtain ⟨a, hA⟩ : ∃ a, a = name ts s := ⟨_, rfl⟩
  obtain ⟨b, hB⟩ : ∃ b, b = types ts a.2 := ⟨_, rfl⟩
  unfold param at h ⊢
  dsimp only at h ⊢
  rw [← hA, ← hB] at h ⊢
  have g4 := types_fine (us := us) (s := a.2) (by rw [← hB]; exact h)
  rw [← hB] at g4
  have g5 := name_fine (us := us) hn (s := s) (by rw [← hA]; exact g4.1)
  rw [← hA] at g5
  refine ⟨g5.1, by show s.pos + 1 ≤ b.2.pos; omega, by show b.2.pos ≤ _; omega, ?_, fun _ => ?_⟩
  · show bal ts b.2.pos = _
    rw [g4.2.2.2.1, g5.2.2.2.1]
    omega
  · rw [g5.2.2.2.2, g4.2.2.2.2]
theorem want_two (s : PS) (x y : List UInt8) : want ts s [x, y] = want1 ts (want1 ts s x) y := rfl
theorem funcOf_fine (hn : NoBr ts) (m m' : Nat) (hm : m ≤ m') : Fine ts m (funcOf ts m) (funcOf (ts ++ us) m') 0 1 1 := fun s p1 p2 h => by
  have he := expr_fine (us := us) hn m m' hm
  have hs := stmt_fine (us := us) hn m m' hm m m' (Nat.le_refl _) hm
  have ht := till_fine (us := us) (e := wReturn) false hs m m' (Nat.le_refl _) hm
  have hl := list_fine (us := us) (e := [41]) rfl (param_fine (us := us) hn m) m m' (Nat.le_refl _) hm
  obtain ⟨w, hW⟩ : ∃ w, w = want1 ts s wFunc := ⟨_, rfl⟩
  obtain ⟨a, hA⟩ : ∃ a, a = name ts w := ⟨_, rfl⟩
  obtain ⟨x, hX⟩ : ∃ x, x = want1 ts a.2 [40] := ⟨_, rfl⟩
  obtain ⟨ps, hP⟩ : ∃ p, p = listOf ts [41] (param ts) m x := ⟨_, rfl⟩
  obtain ⟨ty, hY⟩ : ∃ y, y = types ts ps.2 := ⟨_, rfl⟩
  obtain ⟨z, hZ⟩ : ∃ z, z = want1 ts ty.2 [123] := ⟨_, rfl⟩
  obtain ⟨b, hB⟩ : ∃ b, b = till ts wReturn false (stmt ts m m) m z := ⟨_, rfl⟩
  obtain ⟨r, hR⟩ : ∃ r, r = want1 ts b.2 wReturn := ⟨_, rfl⟩
  obtain ⟨e, hE⟩ : ∃ e, e = expr ts m r := ⟨_, rfl⟩
  unfold funcOf at h ⊢
  dsimp only at h ⊢
  simp only [want_two] at h ⊢
  rw [← hW, ← hA, ← hX, ← hP, ← hY, ← hZ, ← hB, ← hR, ← hE] at h ⊢
  have g1 := want1_fine (us := us) h
  have g2 := want1_fine (us := us) g1.1
  have g3 : r.bad = false := by
    rcases bad_or r with h5 | h5
    · have := g2.1; rw [hE, expr_bad h5] at this; exact this
    · exact h5
  have g4 := want1_fine (us := us) (s := b.2) (x := wReturn) (by rw [← hR]; exact g3)
  rw [← hR] at g4
  have g5 : z.bad = false := by
    rcases bad_or z with h5 | h5
    · have := g4.1
      rw [hB] at this
      cases m with
      | zero => exact this
      | succ k => unfold till at this; rw [if_pos h5] at this; exact this
    · exact h5
  have g6 := want1_fine (us := us) (s := ty.2) (x := [123]) (by rw [← hZ]; exact g5)
  rw [← hZ] at g6
  have g7 := types_fine (us := us) (s := ps.2) (by rw [← hY]; exact g6.1)
  rw [← hY] at g7
  have g8 : x.bad = false := by
    rcases bad_or x with h5 | h5
    · have := g7.1
      rw [hP] at this
      unfold listOf at this
      rw [if_neg (by rw [isT_bad h5]; decide)] at this
      cases m with
      | zero => exact this
      | succ k => unfold rounds at this; rw [if_pos h5] at this; exact this
    · exact h5
  have g9 := want1_fine (us := us) (s := a.2) (x := [40]) (by rw [← hX]; exact g8)
  rw [← hX] at g9
  have g10 := name_fine (us := us) hn (s := w) (by rw [← hA]; exact g9.1)
  rw [← hA] at g10
  have g11 := want1_fine (us := us) (s := s) (x := wFunc) (by rw [← hW]; exact g10.1)
  rw [← hW] at g11
  have f1 := hl x (by omega) (by omega) (by rw [← hP]; exact g7.1)
  rw [← hP] at f1
  have f2 := ht z (by omega) (by omega) (by rw [← hB]; exact g4.1)
  rw [← hB] at f2
  have f3 := he r (by omega) (by omega) (by rw [← hE]; exact g2.1)
  rw [← hE] at f3
  refine ⟨g11.1, by show s.pos + 1 ≤ (want1 ts (want1 ts e.2 [59]) [125]).pos; omega, by show (want1 ts (want1 ts e.2 [59]) [125]).pos ≤ _; omega, ?_, fun _ => ?_⟩
  · show bal ts (want1 ts (want1 ts e.2 [59]) [125]).pos = _
    rw [g1.2.2.2.1, g2.2.2.2.1, f3.2.2.2.1, g4.2.2.2.1, f2.2.2.2.1, g6.2.2.2.1, g7.2.2.2.1, f1.2.2.2.1, g9.2.2.2.1, g10.2.2.2.1, g11.2.2.2.1]
    show _ + 0 + 0 + 0 + 1 + 0 + 0 + 0 + 0 + -1 = _
    omega
  · rw [g11.2.2.2.2, g10.2.2.2.2, g9.2.2.2.2, f1.2.2.2.2 (by omega), g7.2.2.2.2, g6.2.2.2.2, f2.2.2.2.2 (by omega), g4.2.2.2.2, f3.2.2.2.2 (by omega), g2.2.2.2.2, g1.2.2.2.2]
theorem modOf_fine (hn : NoBr ts) (m m' : Nat) (hm : m ≤ m') : Fine ts m (modOf ts m) (modOf (ts ++ us) m') 0 1 1 := fun s p1 p2 h => by
  have ht := till_fine (us := us) (e := [125]) true (funcOf_fine (us := us) hn m m' hm) m m' (Nat.le_refl _) hm
  obtain ⟨w, hW⟩ : ∃ w, w = want1 ts s wModule := ⟨_, rfl⟩
  obtain ⟨a, hA⟩ : ∃ a, a = name ts w := ⟨_, rfl⟩
  obtain ⟨z, hZ⟩ : ∃ z, z = want1 ts a.2 [123] := ⟨_, rfl⟩
  obtain ⟨b, hB⟩ : ∃ b, b = till ts [125] true (funcOf ts m) m z := ⟨_, rfl⟩
  unfold modOf at h ⊢
  dsimp only at h ⊢
  rw [← hW, ← hA, ← hZ, ← hB] at h ⊢
  have g5 : z.bad = false := by
    rcases bad_or z with h5 | h5
    · have := h
      rw [hB] at this
      cases m with
      | zero => exact this
      | succ k => unfold till at this; rw [if_pos h5] at this; exact this
    · exact h5
  have g6 := want1_fine (us := us) (s := a.2) (x := [123]) (by rw [← hZ]; exact g5)
  rw [← hZ] at g6
  have g10 := name_fine (us := us) hn (s := w) (by rw [← hA]; exact g6.1)
  rw [← hA] at g10
  have g11 := want1_fine (us := us) (s := s) (x := wModule) (by rw [← hW]; exact g10.1)
  rw [← hW] at g11
  have f2 := ht z (by omega) (by omega) (by rw [← hB]; exact h)
  rw [← hB] at f2
  refine ⟨g11.1, by show s.pos + 1 ≤ b.2.pos; omega, f2.2.2.1, ?_, fun h8 => ?_⟩
  · show bal ts b.2.pos = _
    rw [f2.2.2.2.1, g6.2.2.2.1, g10.2.2.2.1, g11.2.2.2.1]
    show _ + 0 + 1 + -1 = _
    omega
  · rw [g11.2.2.2.2, g10.2.2.2.2, g6.2.2.2.2, f2.2.2.2.2 h8]
/-- all modules, on the longer row: those of the shorter one, and then what else there is -/
theorem mods_fine (hn : NoBr ts) (hu : us ≠ []) (m m' : Nat) (hm : m ≤ m') : ∀ n s, n ≤ m → s.pos ≤ ts.length → ts.length + 1 ≤ s.pos + n → (mods ts m n s).2.bad = false →
    (mods ts m n s).2.pos = ts.length ∧ bal ts ts.length = bal ts s.pos ∧ ∃ j, j ≤ n ∧ 1 ≤ n - j ∧ ∀ k, mods (ts ++ us) m' (n + k) s = ((mods ts m n s).1 ++ (mods (ts ++ us) m' (n - j + k) (mods ts m n s).2).1, (mods (ts ++ us) m' (n - j + k) (mods ts m n s).2).2)
  | 0, s, _, h1, h2, _ => by omega
  | n + 1, s, hnm, h1, h2, h3 => by
    by_cases hb : (s.bad || decide (ts.length ≤ s.pos)) = true
    · have e : mods ts m (n + 1) s = ([], s) := by rw [mods, if_pos hb]
      rw [e] at h3 ⊢
      have hp : ts.length ≤ s.pos := by
        rw [show s.bad = false from h3] at hb
        simpa using hb
      have hp2 : s.pos = ts.length := by omega
      exact ⟨hp2, by rw [hp2], 0, Nat.zero_le _, by omega, fun k => by rw [List.nil_append]; rfl⟩
    · have e : mods ts m (n + 1) s = ((modOf ts m s).1 :: (mods ts m n (modOf ts m s).2).1, (mods ts m n (modOf ts m s).2).2) := by rw [mods, if_neg hb]
      rw [e] at h3 ⊢
      have hq : (modOf ts m s).2.bad = false := by
        rcases bad_or (modOf ts m s).2 with h5 | h5
        · have : (mods ts m n (modOf ts m s).2).2.bad = false := h3
          cases n with
          | zero => exact this
          | succ k => unfold mods at this; rw [if_pos (by rw [h5]; rfl)] at this; exact this
        · exact h5
      have f := modOf_fine (us := us) hn m m' hm s h1 (by omega) hq
      obtain ⟨i1, i2, j, hj, hj2, i3⟩ := mods_fine hn hu m m' hm n (modOf ts m s).2 (by omega) f.2.2.1 (by omega) h3
      refine ⟨i1, by rw [i2, f.2.2.2.1]; omega, j + 1, by omega, by omega, fun k => ?_⟩
      have hul : 0 < us.length := List.length_pos_iff.2 hu
      have h9 : s.pos < ts.length := by
        by_cases h10 : s.pos < ts.length
        · exact h10
        · rw [decide_eq_true (show ts.length ≤ s.pos by omega), Bool.or_true] at hb
          exact absurd rfl hb
      have hc : ¬ ((s.bad || decide ((ts ++ us).length ≤ s.pos)) = true) := by
        rw [f.1, List.length_append, decide_eq_false (by omega)]
        decide
      rw [show n + 1 + k = n + k + 1 by omega, mods, if_neg hc, f.2.2.2.2 (by omega), i3 k]
      rw [show n + 1 - (j + 1) + k = n - j + k by omega]
      rfl
end Gr
end Go.Proofs.YtljdphpbalioaaaGreatDoor
/- Plain: the tokens of a text with a line behind it; braces in a text and among its tokens. -/
namespace Go.Proofs.YtljdphpbalioaaaGreatDoor
open Go.RowKit

theorem nine (b : UInt8) : signRows.contains [b, 10] = false := by
  have h : ∀ r ∈ signRows, r.getD 1 0 ≠ 10 := by decide
  cases hc : signRows.contains [b, 10] with
  | false => rfl
  | true => exact absurd rfl (h _ (List.contains_iff_mem.1 hc))
theorem runOf_line (r : List UInt8) : ∀ m : List UInt8, runOf (m ++ 10 :: r) = runOf m
  | [] => by
    unfold runOf
    rw [List.nil_append, List.takeWhile_cons, if_neg (by decide)]
    rfl
  | b :: m => by
    have ih := runOf_line r m
    unfold runOf at ih ⊢
    rw [List.cons_append, List.takeWhile_cons, List.takeWhile_cons]
    split
    · rw [List.length_cons, List.length_cons, ih]
    · rfl
theorem runOf_le (m : List UInt8) : runOf m ≤ m.length := by
  unfold runOf
  exact (List.takeWhile_sublist _).length_le
theorem tokAt_line (r : List UInt8) (b : UInt8) (m : List UInt8) : tokAt (b :: m ++ 10 :: r) = tokAt (b :: m) := by
  unfold tokAt
  have e1 : (b :: m ++ 10 :: r).getD 0 0 = b := rfl
  have e2 : (b :: m).getD 0 0 = b := rfl
  rw [e1, e2, runOf_line, List.take_append_of_le_length (runOf_le _)]
  have e3 : (b :: m ++ 10 :: r).take 1 = (b :: m).take 1 := rfl
  rw [e3]
  cases m with
  | cons c m => rfl
  | nil =>
    have e4 : ([b] ++ 10 :: r).take 2 = [b, 10] := rfl
    have e5 : ([b] : List UInt8).take 2 = [b] := rfl
    have e6 : ([b] : List UInt8).take 1 = [b] := rfl
    rw [e4, e5, e6, nine]
    split
    · rfl
    · rw [if_neg (by decide)]
      split <;> rfl
theorem tokAt_le (b : UInt8) (m : List UInt8) : (tokAt (b :: m)).2 ≤ (b :: m).length := by
  unfold tokAt
  split
  · exact runOf_le _
  split
  · rw [List.length_take]; exact Nat.min_le_right _ _
  split
  · rw [List.length_take]; exact Nat.min_le_right _ _
  · exact Nat.zero_le _
theorem toks_line (r : List UInt8) : ∀ (n : Nat) (l : List UInt8) (i : Nat) (ts : List Tok), l.length ≤ n → (∀ b ∈ l, b.toNat ≠ 35) → toks (l.length + 1) i l = some ts →
    toks ((l ++ 10 :: r).length + 1) i (l ++ 10 :: r) = (toks (r.length + 1) (i + l.length + 1) r).map (ts ++ ·) := by
  intro n
  induction n with
  | zero =>
    intro l i ts hn hb h
    have : l = [] := List.eq_nil_of_length_eq_zero (by omega)
    subst this
    cases h
    show toks (r.length + 1 + 1) i (10 :: r) = _
    rw [toks, if_pos (by decide)]
    show toks (r.length + 1) (i + 1) r = (toks (r.length + 1) (i + 1) r).map _
    cases toks (r.length + 1) (i + 1) r <;> rfl
  | succ n ih =>
    intro l i ts hn hb h
    cases l with
    | nil => exact ih [] i ts (Nat.zero_le _) hb h
    | cons b l =>
      rw [List.length_cons] at hn h
      rw [List.cons_append, List.length_cons, toks]
      rw [toks] at h
      by_cases h1 : classOf b.toNat = 3
      · rw [if_pos h1] at h
        rw [if_pos h1, ih l (i + 1) ts (by omega) (fun x hx => hb x (List.mem_cons_of_mem _ hx)) h, List.length_cons, show i + 1 + l.length + 1 = i + (l.length + 1) + 1 by omega]
      rw [if_neg h1] at h
      have h2 := hb b (List.mem_cons_self ..)
      rw [if_neg h2] at h
      rw [if_neg h1, if_neg h2, show b :: (l ++ 10 :: r) = b :: l ++ 10 :: r from rfl, tokAt_line]
      by_cases h3 : (tokAt (b :: l)).1 = 0
      · rw [if_pos h3] at h; cases h
      rw [if_neg h3] at h
      rw [if_neg h3]
      have hp := tok_pos h3
      have hle := tokAt_le b l
      generalize tokAt (b :: l) = kn at *
      cases hq : toks (l.length + 1) (i + kn.2) ((b :: l).drop kn.2) with
      | none => rw [hq] at h; cases h
      | some q =>
        rw [hq] at h
        cases h
        have hdl : ((b :: l).drop kn.2).length = l.length + 1 - kn.2 := by rw [List.length_drop, List.length_cons]
        rw [List.length_cons] at hle
        have e1 : (b :: l ++ 10 :: r).drop kn.2 = (b :: l).drop kn.2 ++ 10 :: r := List.drop_append_of_le_length (by rw [List.length_cons]; exact hle)
        have e2 : (b :: l ++ 10 :: r).take kn.2 = (b :: l).take kn.2 := List.take_append_of_le_length (by rw [List.length_cons]; exact hle)
        rw [toks_fuel _ _ _ _ (Nat.le_refl _) (by omega)] at hq
        have h5 := ih _ (i + kn.2) q (by omega) (fun x hx => hb x (List.mem_of_mem_drop hx)) hq
        rw [e1, e2, toks_fuel _ _ _ _ (Nat.le_refl _) (by rw [List.length_append, List.length_append, List.length_cons]; omega), h5, hdl, List.length_cons, show i + kn.2 + (l.length + 1 - kn.2) + 1 = i + (l.length + 1) + 1 by omega]
        cases toks (r.length + 1) (i + (l.length + 1) + 1) r <;> rfl
theorem toksOf_line {l : List UInt8} {ts : List Tok} (r : List UInt8) (hb : ∀ b ∈ l, b.toNat ≠ 35) (h : toksOf l = some ts) : toksOf (l ++ 10 :: r) = (toks (r.length + 1) (l.length + 1) r).map (ts ++ ·) := by
  have h1 := toks_line r _ l 0 ts (Nat.le_refl _) hb h
  rw [Nat.zero_add] at h1
  exact h1
/-- a token's text: by its kind -/
def TokForm (t : Tok) : Prop := (t.kind ≠ 4 ∧ t.text ≠ [] ∧ ∀ b ∈ t.text, partN b.toNat = true) ∨ (t.kind = 4 ∧ signRows.contains t.text = true)
theorem kindOf_four (l : List UInt8) : kindOf l ≠ 4 := by
  unfold kindOf
  split
  · decide
  split
  · decide
  split <;> decide
theorem take_run (m : List UInt8) : m.take (runOf m) = m.takeWhile fun b => partN b.toNat := by
  unfold runOf
  induction m with
  | nil => rfl
  | cons b m ih =>
    rw [List.takeWhile_cons]
    split
    · rw [List.length_cons, List.take_succ_cons, ih]
    · rfl
theorem take_run_part (m : List UInt8) : ∀ b ∈ m.take (runOf m), partN b.toNat = true := by
  rw [take_run]
  induction m with
  | nil => intro b hb; cases hb
  | cons c m ih =>
    intro b hb
    rw [List.takeWhile_cons] at hb
    split at hb
    · rename_i hc
      rcases List.mem_cons.1 hb with rfl | hb
      · exact hc
      · exact ih b hb
    · cases hb
theorem take_take_len {α : Type} (m : List α) (k : Nat) : m.take (m.take k).length = m.take k := by
  rw [List.length_take]
  rcases Nat.le_total k m.length with h | h
  · rw [Nat.min_eq_left h]
  · rw [Nat.min_eq_right h, List.take_of_length_le (Nat.le_refl _), List.take_of_length_le h]
theorem tok_form (b : UInt8) (m : List UInt8) (i : Nat) (h : (tokAt (b :: m)).1 ≠ 0) : TokForm ⟨(tokAt (b :: m)).1, (b :: m).take (tokAt (b :: m)).2, i⟩ := by
  have hp := tok_pos h
  unfold tokAt at h hp ⊢
  by_cases hc : partN ((b :: m).getD 0 0).toNat = true
  · rw [if_pos hc] at h hp ⊢
    refine .inl ⟨kindOf_four _, ?_, take_run_part _⟩
    intro e
    have := congrArg List.length e
    rw [List.length_take] at this
    have := runOf_le (b :: m)
    simp only [List.length_nil] at *
    omega
  rw [if_neg hc] at h hp ⊢
  by_cases h2 : signRows.contains ((b :: m).take 2) = true
  · rw [if_pos h2]
    exact .inr ⟨rfl, by rw [take_take_len]; exact h2⟩
  rw [if_neg h2] at h hp ⊢
  by_cases h1 : signRows.contains ((b :: m).take 1) = true
  · rw [if_pos h1]
    exact .inr ⟨rfl, by rw [take_take_len]; exact h1⟩
  · rw [if_neg h1] at h
    exact absurd rfl h
theorem part_wt : ∀ l : List UInt8, (∀ b ∈ l, partN b.toNat = true) → (l.count 123 : Int) - l.count 125 = 0
  | [], _ => by decide
  | b :: l, h => by
    have h1 := part_wt l fun x hx => h x (List.mem_cons_of_mem _ hx)
    have hb := h b (List.mem_cons_self ..)
    have n1 : b ≠ 123 := fun e => by rw [e] at hb; exact absurd hb (by decide)
    have n2 : b ≠ 125 := fun e => by rw [e] at hb; exact absurd hb (by decide)
    rw [List.count_cons_of_ne (by exact n1), List.count_cons_of_ne (by exact n2)]
    exact h1
theorem part_zero {x : List UInt8} (h : x ≠ []) (hp : ∀ b ∈ x, partN b.toNat = true) : Gr.wt x = 0 := by
  cases x with
  | nil => exact absurd rfl h
  | cons b x =>
    have hb := hp b (List.mem_cons_self ..)
    unfold Gr.wt
    rw [if_neg (fun e => by cases e; exact absurd hb (by decide)), if_neg (fun e => by cases e; exact absurd hb (by decide))]
theorem form_wt {t : Tok} (h : TokForm t) : (t.text.count 123 : Int) - t.text.count 125 = Gr.wt t.text := by
  rcases h with ⟨_, h2, h3⟩ | ⟨_, h2⟩
  · rw [part_wt _ h3, part_zero h2 h3]
  · have : ∀ r ∈ signRows, (r.count 123 : Int) - r.count 125 = Gr.wt r := by decide
    exact this _ (List.contains_iff_mem.1 h2)
/-- of any text: its tokens' form, what stands in them, and the braces -/
theorem toks_all : ∀ (f i : Nat) (l : List UInt8) (ts : List Tok), toks f i l = some ts → (∀ t ∈ ts, TokForm t ∧ t.text <:+: l) ∧ ((∀ b ∈ l, b.toNat ≠ 35) → Gr.net ts = (l.count 123 : Int) - l.count 125) := by
  intro f
  induction f with
  | zero => intro i l ts h; cases h
  | succ f ih =>
    intro i l ts h
    cases l with
    | nil => cases h; exact ⟨(fun t ht => nomatch ht), (fun _ => rfl)⟩
    | cons b l =>
      rw [toks] at h
      by_cases h1 : classOf b.toNat = 3
      · rw [if_pos h1] at h
        obtain ⟨a1, a2⟩ := ih _ _ _ h
        refine ⟨fun t ht => ⟨(a1 t ht).1, (a1 t ht).2.trans (List.suffix_cons b l).isInfix⟩, fun hb => ?_⟩
        have n1 : b ≠ 123 := fun e => by rw [e] at h1; exact absurd h1 (by decide)
        have n2 : b ≠ 125 := fun e => by rw [e] at h1; exact absurd h1 (by decide)
        rw [a2 fun x hx => hb x (List.mem_cons_of_mem _ hx), List.count_cons_of_ne (by exact n1), List.count_cons_of_ne (by exact n2)]
      rw [if_neg h1] at h
      by_cases h2 : b.toNat = 35
      · rw [if_pos h2] at h
        obtain ⟨a1, a2⟩ := ih _ _ _ h
        exact ⟨fun t ht => ⟨(a1 t ht).1, (a1 t ht).2.trans (List.drop_suffix _ _).isInfix⟩, fun hb => absurd h2 (hb b (List.mem_cons_self ..))⟩
      rw [if_neg h2] at h
      by_cases h3 : (tokAt (b :: l)).1 = 0
      · rw [if_pos h3] at h; cases h
      rw [if_neg h3] at h
      have hf := tok_form b l i h3
      generalize tokAt (b :: l) = kn at *
      cases hq : toks f (i + kn.2) ((b :: l).drop kn.2) with
      | none => rw [hq] at h; cases h
      | some q =>
        rw [hq] at h
        cases h
        obtain ⟨a1, a2⟩ := ih _ _ _ hq
        refine ⟨fun t ht => ?_, fun hb => ?_⟩
        · rcases List.mem_cons.1 ht with rfl | ht
          · exact ⟨hf, (List.take_prefix _ _).isInfix⟩
          · exact ⟨(a1 t ht).1, (a1 t ht).2.trans (List.drop_suffix _ _).isInfix⟩
        · have e := List.take_append_drop kn.2 (b :: l)
          have h5 := form_wt hf
          rw [Gr.net, a2 fun x hx => hb x (List.mem_of_mem_drop hx)]
          simp only at h5 ⊢
          rw [← h5]
          have c1 : (b :: l).count 123 = ((b :: l).take kn.2).count 123 + ((b :: l).drop kn.2).count 123 := by rw [← List.count_append, e]
          have c2 : (b :: l).count 125 = ((b :: l).take kn.2).count 125 + ((b :: l).drop kn.2).count 125 := by rw [← List.count_append, e]
          rw [c1, c2]
          omega
theorem toksOf_form {l : List UInt8} {ts : List Tok} (h : toksOf l = some ts) : (∀ t ∈ ts, TokForm t ∧ t.text <:+: l) ∧ ((∀ b ∈ l, b.toNat ≠ 35) → Gr.net ts = (l.count 123 : Int) - l.count 125) := toks_all _ _ _ _ h
theorem form_noBr {ts : List Tok} (h : ∀ t ∈ ts, TokForm t) : Gr.NoBr ts := fun t ht h4 => by
  rcases h t ht with ⟨_, h2, h3⟩ | ⟨h2, _⟩
  · exact part_zero h2 h3
  · exact absurd h2 h4
/-- a text in which braces don't match is no program -/
theorem braces_bad {l : List UInt8} (hb : ∀ b ∈ l, b.toNat ≠ 35) (hl : l.length ≤ 200000) (hc : l.count 123 ≠ l.count 125) : (parsed l).1 = 20 := by
  unfold parsed
  rw [if_neg (by omega)]
  cases h : toksOf l with
  | none => rfl
  | some ts =>
    obtain ⟨h1, h2⟩ := toksOf_form h
    have hbad : (Gr.program ts (ts.length + 1)).2.bad = true := by
      rcases Gr.bad_or (Gr.program ts (ts.length + 1)).2 with h3 | h3
      · exact h3
      · exfalso
        have h4 := Gr.mods_fine (us := [⟨0, [], 0⟩]) (form_noBr fun t ht => (h1 t ht).1) (by simp) (ts.length + 1) (ts.length + 1) (Nat.le_refl _) (ts.length + 1) ⟨0, 0, false⟩ (Nat.le_refl _) (Nat.zero_le _) (by show _ ≤ 0 + (ts.length + 1); omega) h3
        have h5 := h4.2.1
        unfold Gr.bal at h5
        rw [List.take_length, h2 hb] at h5
        have h6 : Gr.net (ts.take 0) = 0 := rfl
        rw [h6] at h5
        omega
    simp only
    rw [if_pos hbad]
end Go.Proofs.YtljdphpbalioaaaGreatDoor
/- Plain: a program with one module more. -/
namespace Go.Proofs.YtljdphpbalioaaaGreatDoor
open Go.RowKit

def lastB : Bs := [108, 97, 115, 116, 95, 111, 102, 95, 97, 108, 108]
/-- the line behind -/
def tailB : Bs := [109, 111, 100, 117, 108, 101, 32, 108, 97, 115, 116, 95, 111, 102, 95, 97, 108, 108, 32, 123, 32, 102, 117, 110, 99, 32, 102, 40, 41, 32, 105, 110, 116, 32, 123, 32, 114, 101, 116, 117, 114, 110, 32, 49, 59, 32, 125, 32, 125]
def tailT (i : Nat) : List Tok := [⟨3, Gr.wModule, i⟩, ⟨1, lastB, i + 7⟩, ⟨4, [123], i + 19⟩, ⟨3, Gr.wFunc, i + 21⟩, ⟨1, [102], i + 26⟩, ⟨4, [40], i + 27⟩, ⟨4, [41], i + 28⟩, ⟨3, Gr.wInt, i + 30⟩, ⟨4, [123], i + 34⟩, ⟨3, Gr.wReturn, i + 36⟩, ⟨2, [49], i + 43⟩, ⟨4, [59], i + 44⟩, ⟨4, [125], i + 46⟩, ⟨4, [125], i + 48⟩]
theorem tail_toks (i : Nat) : toks (tailB.length + 1) i tailB = some (tailT i) := by kernel_rfl
namespace Gr
variable {ts us : List Tok} {d k : Nat} {t : Tok}
theorem now_on (hk : us[k]? = some t) : now (ts ++ us) ⟨ts.length + k, d, false⟩ = t := by
  unfold now
  show ((ts ++ us)[ts.length + k]?).getD _ = t
  rw [List.getElem?_append_right (Nat.le_add_right _ _), Nat.add_sub_cancel_left, hk]
  rfl
theorem isT_on {x : List UInt8} (hk : us[k]? = some t) (hx : t.text = x) (h : t.kind = 3 ∨ t.kind = 4) : isT (ts ++ us) ⟨ts.length + k, d, false⟩ x = true := by
  unfold isT
  rw [now_on hk, hx]
  rcases h with h | h <;> rw [h] <;> simp
theorem isT_off {x : List UInt8} (hk : us[k]? = some t) (hx : t.text ≠ x) : isT (ts ++ us) ⟨ts.length + k, d, false⟩ x = false := by
  unfold isT
  rw [now_on hk]
  simp [hx]
theorem want1_on {x : List UInt8} (hk : us[k]? = some t) (hx : t.text = x) (h : t.kind = 3 ∨ t.kind = 4) : want1 (ts ++ us) ⟨ts.length + k, d, false⟩ x = ⟨ts.length + (k + 1), d, false⟩ := by
  unfold want1
  rw [isT_on hk hx h]
  rfl
theorem name_on (hk : us[k]? = some t) (h : t.kind = 1) : name (ts ++ us) ⟨ts.length + k, d, false⟩ = (t.text, ⟨ts.length + (k + 1), d, false⟩) := by
  unfold name
  rw [now_on hk, if_pos h]
  rfl
def lastM : Tr := .mk 2 lastB 0 0 [] [] [.mk 3 [102] 0 1 [] [] [.mk 5 [] 0 0 [] [] [.mk 10 [] 0 0 [] [] [.mk 13 [] 1 0 [] [] []]]]]
theorem lastM_count : lastM.count = 5 := by decide
theorem last_func (i m : Nat) : funcOf (ts ++ tailT i) (m + 1) ⟨ts.length + 3, 0, false⟩ = (.mk 3 [102] 0 1 [] [] [.mk 5 [] 0 0 [] [] [.mk 10 [] 0 0 [] [] [.mk 13 [] 1 0 [] [] []]]], ⟨ts.length + 13, 0, false⟩) := by
  unfold funcOf
  rw [want1_on (x := wFunc) (k := 3) (us := tailT i) rfl rfl (.inl rfl), name_on (k := 4) (us := tailT i) rfl rfl]
  dsimp only
  rw [want1_on (x := [40]) (k := 5) (us := tailT i) rfl rfl (.inr rfl)]
  have e1 : listOf (ts ++ tailT i) [41] (param (ts ++ tailT i)) (m + 1) ⟨ts.length + 6, 0, false⟩ = ([], ⟨ts.length + 7, 0, false⟩) := by
    unfold listOf
    rw [isT_on (x := [41]) (k := 6) (us := tailT i) rfl rfl (.inr rfl)]
    rfl
  rw [e1]
  dsimp only
  have e2 : types (ts ++ tailT i) ⟨ts.length + 7, 0, false⟩ = (1, ⟨ts.length + 8, 0, false⟩) := by
    unfold types
    rw [isT_on (x := wInt) (k := 7) (us := tailT i) rfl rfl (.inl rfl)]
    rfl
  rw [e2]
  dsimp only
  rw [want1_on (x := [123]) (k := 8) (us := tailT i) rfl rfl (.inr rfl)]
  have e3 : till (ts ++ tailT i) wReturn false (stmt (ts ++ tailT i) (m + 1) (m + 1)) (m + 1) ⟨ts.length + 9, 0, false⟩ = ([], ⟨ts.length + 9, 0, false⟩) := by
    unfold till
    rw [isT_on (x := wReturn) (k := 9) (us := tailT i) rfl rfl (.inl rfl)]
    rfl
  rw [e3]
  dsimp only
  rw [want1_on (x := wReturn) (k := 9) (us := tailT i) rfl rfl (.inl rfl)]
  have e4 : expr (ts ++ tailT i) (m + 1) ⟨ts.length + 10, 0, false⟩ = (leaf 13 1 [], ⟨ts.length + 11, 0, false⟩) := by
    unfold expr
    rw [now_on (k := 10) (us := tailT i) rfl]
    rfl
  rw [e4]
  dsimp only
  rw [want_two, want1_on (x := [59]) (k := 11) (us := tailT i) rfl rfl (.inr rfl), want1_on (x := [125]) (k := 12) (us := tailT i) rfl rfl (.inr rfl)]
  rfl
theorem last_mod (i m : Nat) : modOf (ts ++ tailT i) (m + 2) ⟨ts.length + 0, 0, false⟩ = (lastM, ⟨ts.length + 14, 0, false⟩) := by
  unfold modOf
  rw [want1_on (x := wModule) (k := 0) (us := tailT i) rfl rfl (.inl rfl), name_on (k := 1) (us := tailT i) rfl rfl]
  dsimp only
  rw [want1_on (x := [123]) (k := 2) (us := tailT i) rfl rfl (.inr rfl)]
  have e1 : till (ts ++ tailT i) [125] true (funcOf (ts ++ tailT i) (m + 2)) (m + 2) ⟨ts.length + 3, 0, false⟩ = ([.mk 3 [102] 0 1 [] [] [.mk 5 [] 0 0 [] [] [.mk 10 [] 0 0 [] [] [.mk 13 [] 1 0 [] [] []]]]], ⟨ts.length + 14, 0, false⟩) := by
    rw [till, if_neg Bool.false_ne_true, isT_off (x := [125]) (k := 3) (us := tailT i) rfl (show wFunc ≠ [125] by decide), if_neg Bool.false_ne_true, last_func i (m + 1)]
    dsimp only
    rw [till, if_neg Bool.false_ne_true, isT_on (x := [125]) (k := 13) (us := tailT i) rfl rfl (.inr rfl)]
    rfl
  rw [e1]
  rfl
theorem mods_deep (m : Nat) : ∀ n s, (mods ts m n s).2.deep = s.deep
  | 0, s => rfl
  | n + 1, s => by
    unfold mods
    split
    · rfl
    · exact (mods_deep m n _).trans ((modOf_keeps m).deep s)
theorem program_last (hn : NoBr ts) (i : Nat) (h : (program ts (ts.length + 1)).2.bad = false) :
    ∃ ks, (program ts (ts.length + 1)).1 = .mk 1 [] 0 0 [] [] ks ∧ ks = (mods ts (ts.length + 1) (ts.length + 1) ⟨0, 0, false⟩).1 ∧
      program (ts ++ tailT i) ((ts ++ tailT i).length + 1) = (.mk 1 [] 0 0 [] [] (ks ++ [lastM]), ⟨ts.length + 14, 0, false⟩) := by
  have hl : (ts ++ tailT i).length = ts.length + 14 := by rw [List.length_append]; rfl
  obtain ⟨h1, h2, j, hj, hj2, h3⟩ := mods_fine (us := tailT i) hn (by unfold tailT; simp) (ts.length + 1) ((ts ++ tailT i).length + 1) (by rw [hl]; omega) (ts.length + 1) ⟨0, 0, false⟩ (Nat.le_refl _) (Nat.zero_le _) (by show _ ≤ 0 + (ts.length + 1); omega) h
  refine ⟨_, rfl, rfl, ?_⟩
  have hq : (mods ts (ts.length + 1) (ts.length + 1) ⟨0, 0, false⟩).2 = ⟨ts.length + 0, 0, false⟩ := by
    have hd := mods_deep (ts := ts) (ts.length + 1) (ts.length + 1) ⟨0, 0, false⟩
    have hb : (mods ts (ts.length + 1) (ts.length + 1) ⟨0, 0, false⟩).2.bad = false := h
    generalize (mods ts (ts.length + 1) (ts.length + 1) ⟨0, 0, false⟩).2 = q at *
    obtain ⟨p, dd, b⟩ := q
    simp only at h1 hd hb
    subst h1 hd hb
    rfl
  have h4 := h3 14
  rw [hq] at h4
  have e1 : ts.length + 1 - j + 14 = (ts.length - j + 13) + 1 + 1 := by omega
  have e2 : mods (ts ++ tailT i) ((ts ++ tailT i).length + 1) (ts.length + 1 - j + 14) ⟨ts.length + 0, 0, false⟩ = ([lastM], ⟨ts.length + 14, 0, false⟩) := by
    obtain ⟨m, hm⟩ : ∃ m, (ts ++ tailT i).length + 1 = m + 2 := ⟨ts.length + 13, by rw [hl]⟩
    rw [hm, e1, mods, if_neg (by rw [hl]; simp), last_mod]
    dsimp only
    rw [mods, if_pos (by rw [hl]; simp)]
  rw [e2] at h4
  show (Tr.mk 1 [] 0 0 [] [] (mods (ts ++ tailT i) ((ts ++ tailT i).length + 1) ((ts ++ tailT i).length + 1) ⟨0, 0, false⟩).1, (mods (ts ++ tailT i) ((ts ++ tailT i).length + 1) ((ts ++ tailT i).length + 1) ⟨0, 0, false⟩).2) = _
  have e3 : mods (ts ++ tailT i) ((ts ++ tailT i).length + 1) ((ts ++ tailT i).length + 1) ⟨0, 0, false⟩ = mods (ts ++ tailT i) ((ts ++ tailT i).length + 1) (ts.length + 1 + 14) ⟨0, 0, false⟩ := by
    congr 1
    rw [hl]
  rw [e3, h4]
/-- the modules' names stand in the text -/
theorem mods_names (m : Nat) : ∀ n s, ∀ t ∈ (mods ts m n s).1, ∃ nm ks, t = .mk 2 nm 0 0 [] [] ks ∧ (nm = [] ∨ ∃ x ∈ ts, x.text = nm)
  | 0, s => fun t ht => nomatch ht
  | n + 1, s => fun t ht => by
    unfold mods at ht
    split at ht
    · cases ht
    · rcases List.mem_cons.1 ht with rfl | ht
      · refine ⟨_, _, rfl, ?_⟩
        unfold name
        by_cases hk : (now ts (want1 ts s wModule)).kind = 1
        · rw [if_pos hk]
          exact .inr ⟨_, now_mem (by rw [hk]; decide), rfl⟩
        · rw [if_neg hk]
          exact .inl rfl
      · exact mods_names m n _ t ht
end Gr
end Go.Proofs.YtljdphpbalioaaaGreatDoor
/- Plain: names, numbers and nodes of a program with one module more. -/
namespace Go.Proofs.YtljdphpbalioaaaGreatDoor
open Go.RowKit
set_option linter.unusedSectionVars false

namespace Nm
variable {α : Type} [DecidableEq α] {I : α → Nat}
theorem tagL_app : ∀ (a b : List Tr) (n : Nat), tagL n (a ++ b) = tagL n a ++ tagL (n + Tr.countL a) b
  | [], b, n => by rw [List.nil_append, tagL, Tr.countL]; rfl
  | t :: a, b, n => by rw [List.cons_append, tagL, tagL, tagL_app a b, Tr.countL, List.cons_append, Nat.add_assoc]
def msOf : List (LT α) → (Bs → Bool) → Bs → Bool
  | [], ms => ms
  | t :: r, ms => msOf r fun y => decide (y = t.name) || ms y
theorem msOf_no {x : Bs} : ∀ (a : List (LT α)) (ms : Bs → Bool), (∀ t ∈ a, t.name ≠ x) → ms x = false → msOf a ms x = false
  | [], ms, _, h => h
  | t :: r, ms, ha, h => msOf_no r _ (fun u hu => ha u (List.mem_cons_of_mem _ hu)) (by
    show (decide (x = t.name) || ms x) = false
    rw [h, decide_eq_false fun e => ha t (List.mem_cons_self ..) e.symm]
    rfl)
theorem modsL_snoc (T : LT α) : ∀ (a : List (LT α)) (ms : Bs → Bool) (s : Fs α), (modsL I a ms s).1 = 0 → modsL I (a ++ [T]) ms s = modsL I [T] (msOf a ms) (modsL I a ms s).2
  | [], ms, s, _ => by rw [List.nil_append, modsL]; rfl
  | t :: a, ms, s, h => by
    rw [List.cons_append]
    unfold modsL at h
    conv => lhs; unfold modsL
    rw [show modsL I (t :: a) ms s = (if ms t.name then (10, s) else if (funcsL I t.name t.kids s).1 = 0 then modsL I a (fun y => decide (y = t.name) || ms y) (funcsL I t.name t.kids s).2 else funcsL I t.name t.kids s) by rw [modsL]]
    by_cases h1 : ms t.name = true
    · rw [if_pos h1] at h; cases h
    rw [if_neg h1] at h
    rw [if_neg h1, if_neg h1]
    dsimp only at h ⊢
    by_cases h2 : (funcsL I t.name t.kids s).1 = 0
    · rw [if_pos h2] at h
      rw [if_pos h2, if_pos h2, modsL_snoc T a _ _ h]
      rfl
    · rw [if_neg h2] at h
      exact absurd h h2
theorem func_funcs {x y : Bs} {mod : Bs} (hx : x ≠ mod) (f : LT α) (s : Fs α) : (func I mod f s).2.funcs (x, y) = s.funcs (x, y) := by
  unfold func
  split
  · rfl
  · show putF s.funcs (mod, f.name) f.lab (x, y) = _
    unfold putF
    rw [if_neg fun e => hx (congrArg Prod.fst e)]
theorem funcsL_funcs {x y : Bs} {mod : Bs} (hx : x ≠ mod) : ∀ (l : List (LT α)) (s : Fs α), (funcsL I mod l s).2.funcs (x, y) = s.funcs (x, y)
  | [], s => by rw [funcsL]
  | f :: l, s => by
    rw [funcsL]
    split
    · rw [funcsL_funcs hx l, func_funcs hx]
    · exact func_funcs hx f s
theorem modsL_funcs {x y : Bs} : ∀ (l : List (LT α)) (ms : Bs → Bool) (s : Fs α), (∀ t ∈ l, t.name ≠ x) → (modsL I l ms s).2.funcs (x, y) = s.funcs (x, y)
  | [], ms, s, _ => by rw [modsL]
  | t :: l, ms, s, h => by
    have hx : x ≠ t.name := fun e => h t (List.mem_cons_self ..) e.symm
    rw [modsL]
    split
    · rfl
    dsimp only
    split
    · rw [modsL_funcs l _ _ fun u hu => h u (List.mem_cons_of_mem _ hu), funcsL_funcs hx]
    · exact funcsL_funcs hx _ _
theorem callsL_more (fs fs' : Bs × Bs → Option α) (h : ∀ k, (fs k).isSome = true → (fs' k).isSome = true) : ∀ (l : List (Bs × Bs × α)) (R R' : α → Nat), (callsL I l fs R).1 = 0 → (callsL I l fs' R').1 = 0
  | [], R, R', _ => by rw [callsL]
  | c :: l, R, R', h0 => by
    rw [callsL] at h0 ⊢
    cases hf : fs (c.1, c.2.1) with
    | none => rw [hf] at h0; cases h0
    | some b =>
      rw [hf] at h0
      have h1 := h (c.1, c.2.1) (by rw [hf]; rfl)
      cases hg : fs' (c.1, c.2.1) with
      | none => rw [hg] at h1; cases h1
      | some b' => exact callsL_more fs fs' h l _ _ h0
end Nm
namespace Nm
variable {I : Nat → Nat}
theorem last_funcs (n : Nat) (s : Fs Nat) (h : s.funcs (lastB, [102]) = none) : ∃ b, funcsL I lastB (tag n Gr.lastM).kids s = (0, ⟨putF s.funcs (lastB, [102]) b, s.calls, s.ref⟩) := by
  refine ⟨n + 1, ?_⟩
  have e : (tag n Gr.lastM).kids = [.mk (n + 1) 3 [102] 0 1 [] [] [.mk (n + 1 + 1) 5 [] 0 0 [] [] [.mk (n + 1 + 1 + 1) 10 [] 0 0 [] [] [.mk (n + 1 + 1 + 1 + 1) 13 [] 1 0 [] [] []]]]] := rfl
  rw [e, funcsL, func]
  have hn : (LT.mk (n + 1) 3 [102] 0 1 [] [] [LT.mk (n + 1 + 1) 5 [] 0 0 [] [] [LT.mk (n + 1 + 1 + 1) 10 [] 0 0 [] [] [LT.mk (n + 1 + 1 + 1 + 1) 13 [] 1 0 [] [] []]]] : LT Nat).name = [102] := rfl
  rw [hn, h, if_neg (show ¬ ((none : Option Nat).isSome = true) by simp)]
  have hf : funcL I (LT.mk (n + 1) 3 [102] 0 1 [] [] [LT.mk (n + 1 + 1) 5 [] 0 0 [] [] [LT.mk (n + 1 + 1 + 1) 10 [] 0 0 [] [] [LT.mk (n + 1 + 1 + 1 + 1) 13 [] 1 0 [] [] []]]] : LT Nat).kids ⟨fun _ => false, [fun _ => none], s.calls, s.ref⟩ = (0, ⟨fun _ => false, [fun _ => none], s.calls, s.ref⟩) := by
    show funcL I [LT.mk (n + 1 + 1) 5 [] 0 0 [] [] [LT.mk (n + 1 + 1 + 1) 10 [] 0 0 [] [] [LT.mk (n + 1 + 1 + 1 + 1) 13 [] 1 0 [] [] []]]] _ = _
    simp [funcL, visit, visitL, pre, post, LT.kind]
  rw [hf]
  rfl
theorem mk_kids (n k : Nat) (nm : Bs) (u : Int) (ty : Nat) (m g : Bs) (ks : List Tr) : (tag n (.mk k nm u ty m g ks)).kids = tagL (n + 1) ks := by rw [tag]; rfl
theorem tagL_names {x : Bs} : ∀ (l : List Tr) (n : Nat), (∀ t ∈ l, ∃ nm ks, t = .mk 2 nm 0 0 [] [] ks ∧ nm ≠ x) → ∀ T ∈ tagL n l, T.name ≠ x
  | [], n, _, T, hT => by rw [tagL] at hT; cases hT
  | t :: l, n, h, T, hT => by
    rw [tagL] at hT
    rcases List.mem_cons.1 hT with rfl | hT
    · obtain ⟨nm, ks, rfl, hn⟩ := h t (List.mem_cons_self ..)
      rw [tag]
      exact hn
    · exact tagL_names l _ (fun u hu => h u (List.mem_cons_of_mem _ hu)) T hT
theorem err_last (ks : List Tr) (hk : ∀ t ∈ ks, ∃ nm l, t = .mk 2 nm 0 0 [] [] l ∧ nm ≠ lastB) (h : errOf (.mk 1 [] 0 0 [] [] ks) = 0) : errOf (.mk 1 [] 0 0 [] [] (ks ++ [Gr.lastM])) = 0 := by
  unfold errOf all at h ⊢
  rw [mk_kids] at h ⊢
  rw [tagL_app]
  have hn := tagL_names ks (1 + 1) hk
  generalize tagL (1 + 1) ks = a at *
  dsimp only at h ⊢
  have h1 : (modsL (fun n => n) a (fun _ => false) ⟨fun _ => none, [], fun _ => 0⟩).1 = 0 := by
    by_cases h2 : (modsL (fun n => n) a (fun _ => false) ⟨fun _ => none, [], fun _ => 0⟩).1 = 0
    · exact h2
    · rw [if_neg h2] at h; exact absurd h h2
  rw [if_pos h1] at h
  have e1 : tagL (1 + 1 + Tr.countL ks) [Gr.lastM] = [tag (1 + 1 + Tr.countL ks) Gr.lastM] := by rw [tagL, tagL]
  rw [e1, modsL_snoc _ a _ _ h1]
  generalize 1 + 1 + Tr.countL ks = n
  have h3 : (modsL (fun n => n) a (fun _ => false) ⟨fun _ => none, [], fun _ => 0⟩).2.funcs (lastB, [102]) = none := by rw [modsL_funcs a _ _ hn]
  have h4 : msOf a (fun _ => false) lastB = false := msOf_no a _ hn rfl
  generalize (modsL (fun n => n) a (fun _ => false) ⟨fun _ => none, [], fun _ => 0⟩).2 = s at *
  obtain ⟨b, hb⟩ := last_funcs (I := fun n => n) n s h3
  have hname : (tag n Gr.lastM).name = lastB := rfl
  have e2 : modsL (fun n => n) [tag n Gr.lastM] (msOf a fun _ => false) s = (0, ⟨putF s.funcs (lastB, [102]) b, s.calls, s.ref⟩) := by
    rw [modsL, hname, h4, hb]
    simp [modsL]
  rw [e2, if_pos rfl]
  refine callsL_more _ _ (fun k hk => ?_) _ _ _ h
  show (putF s.funcs (lastB, [102]) b k).isSome = true
  unfold putF
  split
  · rfl
  · exact hk
theorem length_ins {β : Type} (x : Nat × β) : ∀ l : List (Nat × β), (insA x l).length = l.length + 1
  | [] => rfl
  | y :: r => by
    unfold insA
    split
    · rfl
    · rw [List.length_cons, length_ins x r]; rfl
theorem getA_new {l : List (Nat × Nd)} {x y : Nat} {n : Nd} (h : y ≠ x) : getA (putA l x n) y = getA l y := getA_put_other l x y n h
mutual
theorem layT_full (R : Nat → Nat) : ∀ (t : LT Nat) (l : List (Nat × Nd)), AscA l → (LT.labs t).Nodup → (∀ x ∈ LT.labs t, getA l x = none ∧ x < 18446744073709551616) →
    AscA (layT (fun n => n) R l t) ∧ (layT (fun n => n) R l t).length = l.length + t.count ∧ ∀ y, y ∉ LT.labs t → getA (layT (fun n => n) R l t) y = getA l y
  | .mk a k nm u ty m g ks, l, hl, hn, hx => by
    rw [LT.labs_mk] at hn hx
    obtain ⟨n1, n2⟩ := List.nodup_cons.1 hn
    obtain ⟨h1, h2, h3⟩ := layL_full R ks l hl n2 fun x hx2 => hx x (List.mem_cons_of_mem _ hx2)
    rw [layT, LT.count]
    have h4 := (hx a (List.mem_cons_self ..))
    refine ⟨h1.put _ _ h4.2, ?_, fun y hy => ?_⟩
    · unfold putA
      rw [length_ins, delA_not _ _ (by rw [h3 a n1]; exact h4.1), h2]
      omega
    · rw [LT.labs_mk] at hy
      rw [getA_new fun e => hy (by rw [e]; exact List.mem_cons_self ..), h3 y fun h5 => hy (List.mem_cons_of_mem _ h5)]
theorem layL_full (R : Nat → Nat) : ∀ (ks : List (LT Nat)) (l : List (Nat × Nd)), AscA l → (LT.labsL ks).Nodup → (∀ x ∈ LT.labsL ks, getA l x = none ∧ x < 18446744073709551616) →
    AscA (layL (fun n => n) R l ks) ∧ (layL (fun n => n) R l ks).length = l.length + LT.countL ks ∧ ∀ y, y ∉ LT.labsL ks → getA (layL (fun n => n) R l ks) y = getA l y
  | [], l, hl, _, _ => by rw [layL]; exact ⟨hl, rfl, fun _ _ => rfl⟩
  | t :: r, l, hl, hn, hx => by
    rw [LT.labsL_cons] at hn hx
    obtain ⟨n1, n2, n3⟩ := List.nodup_append.1 hn
    obtain ⟨h1, h2, h3⟩ := layT_full R t l hl n1 fun x hx2 => hx x (List.mem_append_left _ hx2)
    obtain ⟨h4, h5, h6⟩ := layL_full R r _ h1 n2 fun x hx2 => ⟨by rw [h3 x fun e => n3 x e x hx2 rfl]; exact (hx x (List.mem_append_right _ hx2)).1, (hx x (List.mem_append_right _ hx2)).2⟩
    rw [layL, LT.countL]
    refine ⟨h4, by rw [h5, h2]; omega, fun y hy => ?_⟩
    rw [LT.labsL_cons] at hy
    rw [h6 y fun e => hy (List.mem_append_right _ e), h3 y fun e => hy (List.mem_append_left _ e)]
end
theorem rows_len (t : Tr) (hc : t.count ≤ 20000) : (rowsOf t).length = t.count := by
  obtain ⟨k, nm, u, ty, m, g, ks⟩ := t
  rw [Tr.count] at hc ⊢
  unfold rowsOf
  generalize (all (fun n => n) (tag 1 (.mk k nm u ty m g ks))).2 = R
  rw [tag, layT]
  have hl : AscA [((1 : Nat), Nd.prog)] := ⟨List.pairwise_singleton _ _, fun p hp => by rw [List.mem_singleton.1 hp]; decide⟩
  have hlab := tagL_labs ks (1 + 1)
  obtain ⟨h1, h2, h3⟩ := layL_full R (tagL (1 + 1) ks) [(1, .prog)] hl (by rw [hlab]; exact List.nodup_range') fun x hx => by
    rw [hlab, List.mem_range'_1] at hx
    refine ⟨getA_none.2 fun p hp => ?_, by omega⟩
    rw [List.mem_singleton.1 hp]
    show (1 : Nat) ≠ x
    omega
  have h4 := h3 1 (by rw [hlab, List.mem_range'_1]; omega)
  unfold putA
  rw [length_ins, length_del_some h1 (x := 1) (v := .prog) (by rw [h4]; rfl), h2, ← LT.countL_bare, tagL_bare]
  show 1 + Tr.countL ks = _
  omega
end Nm
theorem countL_snoc : ∀ (a : List Tr) (t : Tr), Tr.countL (a ++ [t]) = Tr.countL a + t.count
  | [], t => by rw [List.nil_append, Tr.countL, Tr.countL, Tr.countL]; omega
  | x :: a, t => by rw [List.cons_append, Tr.countL, Tr.countL, countL_snoc a t]; omega
/-- a program, and a module behind it -/
theorem parsed_last {l : Bs} (hl : l.length ≤ 800) (hb : ∀ b ∈ l, b.toNat ≠ 35) (hx : ¬ lastB <:+: l) (h : (parsed l).1 = 0) :
    (parsed (l ++ 10 :: tailB)).1 = 0 ∧ (parsed (l ++ 10 :: tailB)).2.length = (parsed l).2.length + 5 := by
  have hlen : (l ++ 10 :: tailB).length = l.length + 50 := by rw [List.length_append]; rfl
  cases hts : toksOf l with
  | none =>
    unfold parsed at h
    rw [if_neg (by omega), hts] at h
    cases h
  | some ts =>
    obtain ⟨f1, -⟩ := toksOf_form hts
    have hn := form_noBr fun t ht => (f1 t ht).1
    have ht2 : toksOf (l ++ 10 :: tailB) = some (ts ++ tailT (l.length + 1)) := by rw [toksOf_line tailB hb hts, tail_toks]; rfl
    have hbd := (toksOf_bound hts).1
    have hbad : (Gr.program ts (ts.length + 1)).2.bad = false := by
      rcases Gr.bad_or (Gr.program ts (ts.length + 1)).2 with h3 | h3
      · unfold parsed at h
        rw [if_neg (by omega), hts] at h
        dsimp only at h
        rw [if_pos h3] at h
        cases h
      · exact h3
    obtain ⟨ks, e1, e2, e3⟩ := Gr.program_last hn (l.length + 1) hbad
    have hc := Gr.program_count (ts.length + 1) hbad
    rw [e1, Tr.count] at hc
    have hcount2 : (Tr.mk 1 [] 0 0 [] [] (ks ++ [Gr.lastM])).count = (Tr.mk 1 [] 0 0 [] [] ks).count + 5 := by
      rw [Tr.count, Tr.count, countL_snoc, Gr.lastM_count]
    have hks : ∀ t ∈ ks, ∃ nm l, t = .mk 2 nm 0 0 [] [] l ∧ nm ≠ lastB := fun t ht => by
      rw [e2] at ht
      obtain ⟨nm, k2, h1, h2⟩ := Gr.mods_names _ _ _ t ht
      refine ⟨nm, k2, h1, fun e => ?_⟩
      rcases h2 with h2 | ⟨x, hx1, hx2⟩
      · rw [h2] at e; cases e
      · apply hx
        rw [← e, ← hx2]
        exact (f1 x hx1).2
    have hcs : (Tr.mk 1 [] 0 0 [] [] ks).count ≤ 19000 := by rw [Tr.count]; omega
    unfold parsed at h
    rw [if_neg (by omega), hts] at h
    dsimp only at h
    rw [if_neg (by rw [hbad]; decide), e1, if_neg (by omega)] at h
    have he : errOf (Tr.mk 1 [] 0 0 [] [] ks) = 0 := by
      by_cases h5 : errOf (Tr.mk 1 [] 0 0 [] [] ks) = 0
      · exact h5
      · rw [if_pos h5] at h; exact h
    have he2 := Nm.err_last ks hks he
    unfold parsed
    rw [if_neg (by omega), if_neg (by omega), ht2, hts]
    dsimp only
    rw [e3]
    dsimp only
    rw [if_neg Bool.false_ne_true, hbad, if_neg Bool.false_ne_true, e1, if_neg (by omega), if_neg (by omega), if_neg (by omega), if_neg (by omega)]
    refine ⟨rfl, ?_⟩
    show (rowsOf _).length = (rowsOf _).length + 5
    rw [Nm.rows_len _ (by omega), Nm.rows_len _ (by omega), hcount2]
/-- what Index tells -/
theorem index_infix {s sub : Bs} (h : Lib.index s sub < 0) : ¬ sub <:+: s := by
  rintro ⟨a, b, e⟩
  rcases Lib.index_spec s sub with ⟨_, h2⟩ | ⟨i, h2, _⟩
  · have h3 := h2 a.length (by rw [← e, List.length_append, List.length_append]; omega)
    unfold Lib.occAt at h3
    rw [← e, List.append_assoc, List.drop_left] at h3
    rw [List.isPrefixOf_iff_prefix.2 (List.prefix_append _ _)] at h3
    cases h3
  · omega
end Go.Proofs.YtljdphpbalioaaaGreatDoor
