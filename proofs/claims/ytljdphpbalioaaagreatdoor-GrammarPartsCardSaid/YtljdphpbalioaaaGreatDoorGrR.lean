/- Plain: statements go on. The contract of statements. -/
import Derived.Test.YtljdphpbalioaaaGreatDoorGrX
namespace Go.Proofs.YtljdphpbalioaaaGreatDoor
open Go.RowKit

def Gr.bodyOf (ts : List Tok) (st : PS → Tr × PS) (n : Nat) (s : PS) : List Tr × PS := Gr.till ts [125] true st n (Gr.want1 ts s [123])
theorem blockOf_eq (ts : List Tok) (st : PS → Tr × PS) (n : Nat) (s : PS) : Gr.blockOf ts st n s = (.mk 5 [] 0 0 [] [] (Gr.within s (Gr.bodyOf ts st n) []).1, (Gr.within s (Gr.bodyOf ts st n) []).2) := rfl
def StmtIH (g : Nat) (ta : Option Addr) (tc : Nat) (ts : List Tok) (B m n : Nat) : Prop :=
  ∀ s w, muOf ts s ≤ n → s.bad = false → Gr.Ok ts s → Asks w g ta tc ts B s → Calls Tryz.prog 49 #[.pointer (some ⟨g, 0, none⟩)] w (TreeSays g ta tc ts w (Gr.stmt ts m n s))
section
variable {ts : List Tok} {m n : Nat} {s : PS}
theorem stmt_let (h : Gr.isT ts s Gr.wLet = true) : Gr.stmt ts m (n + 1) s = (.mk 6 (Gr.name ts (Gr.PS.adv s)).1 0 (Gr.types ts (Gr.name ts (Gr.PS.adv s)).2).1 [] [] [(Gr.expr ts m (Gr.want1 ts (Gr.types ts (Gr.name ts (Gr.PS.adv s)).2).2 [61])).1], Gr.want1 ts (Gr.expr ts m (Gr.want1 ts (Gr.types ts (Gr.name ts (Gr.PS.adv s)).2).2 [61])).2 [59]) := by
  rw [Gr.stmt, if_pos h]
theorem stmt_if (h : Gr.isT ts s Gr.wLet = false) (h2 : Gr.isT ts s Gr.wIf = true) : Gr.stmt ts m (n + 1) s = (.mk 8 [] 0 0 [] [] [(Gr.expr ts m (Gr.PS.adv s)).1, (Gr.blockOf ts (Gr.stmt ts m n) n (Gr.expr ts m (Gr.PS.adv s)).2).1, (Gr.blockOf ts (Gr.stmt ts m n) n (Gr.want1 ts (Gr.blockOf ts (Gr.stmt ts m n) n (Gr.expr ts m (Gr.PS.adv s)).2).2 Gr.wElse)).1], (Gr.blockOf ts (Gr.stmt ts m n) n (Gr.want1 ts (Gr.blockOf ts (Gr.stmt ts m n) n (Gr.expr ts m (Gr.PS.adv s)).2).2 Gr.wElse)).2) := by
  rw [Gr.stmt, if_neg (by rw [h]; decide), if_pos h2]
theorem stmt_while (h : Gr.isT ts s Gr.wLet = false) (h2 : Gr.isT ts s Gr.wIf = false) (h3 : Gr.isT ts s Gr.wWhile = true) : Gr.stmt ts m (n + 1) s = (.mk 9 [] 0 0 [] [] [(Gr.expr ts m (Gr.PS.adv s)).1, (Gr.blockOf ts (Gr.stmt ts m n) n (Gr.expr ts m (Gr.PS.adv s)).2).1], (Gr.blockOf ts (Gr.stmt ts m n) n (Gr.expr ts m (Gr.PS.adv s)).2).2) := by
  rw [Gr.stmt, if_neg (by rw [h]; decide), if_neg (by rw [h2]; decide), if_pos h3]
theorem stmt_print (h : Gr.isT ts s Gr.wLet = false) (h2 : Gr.isT ts s Gr.wIf = false) (h3 : Gr.isT ts s Gr.wWhile = false) (h4 : Gr.isT ts s Gr.wPrint = true) : Gr.stmt ts m (n + 1) s = (.mk 11 [] 0 0 [] [] [(Gr.expr ts m (Gr.PS.adv s)).1], Gr.want1 ts (Gr.expr ts m (Gr.PS.adv s)).2 [59]) := by
  rw [Gr.stmt, if_neg (by rw [h]; decide), if_neg (by rw [h2]; decide), if_neg (by rw [h3]; decide), if_pos h4]
theorem stmt_do (h : Gr.isT ts s Gr.wLet = false) (h2 : Gr.isT ts s Gr.wIf = false) (h3 : Gr.isT ts s Gr.wWhile = false) (h4 : Gr.isT ts s Gr.wPrint = false) (h5 : Gr.isT ts s Gr.wDo = true) : Gr.stmt ts m (n + 1) s = (.mk 12 [] 0 0 [] [] [(Gr.callOf ts (Gr.expr ts m) m (Gr.name ts (Gr.PS.adv s)).1 (Gr.name ts (Gr.PS.adv s)).2).1], Gr.want1 ts (Gr.callOf ts (Gr.expr ts m) m (Gr.name ts (Gr.PS.adv s)).1 (Gr.name ts (Gr.PS.adv s)).2).2 [59]) := by
  rw [Gr.stmt, if_neg (by rw [h]; decide), if_neg (by rw [h2]; decide), if_neg (by rw [h3]; decide), if_neg (by rw [h4]; decide), if_pos h5]
theorem stmt_set (h : Gr.isT ts s Gr.wLet = false) (h2 : Gr.isT ts s Gr.wIf = false) (h3 : Gr.isT ts s Gr.wWhile = false) (h4 : Gr.isT ts s Gr.wPrint = false) (h5 : Gr.isT ts s Gr.wDo = false) : Gr.stmt ts m (n + 1) s = (.mk 7 [] 0 0 [] (Gr.name ts s).1 [(Gr.expr ts m (Gr.want1 ts (Gr.name ts s).2 [61])).1], Gr.want1 ts (Gr.expr ts m (Gr.want1 ts (Gr.name ts s).2 [61])).2 [59]) := by
  rw [Gr.stmt, if_neg (by rw [h]; decide), if_neg (by rw [h2]; decide), if_neg (by rw [h3]; decide), if_neg (by rw [h4]; decide), if_neg (by rw [h5]; decide)]
theorem stmt_adv : (Gr.stmt ts m (n + 1) s).2.bad = true ∨ s.pos + 1 ≤ (Gr.stmt ts m (n + 1) s).2.pos := by
  have hs := Gr.stmt_keeps (ts := ts) m n
  have hb := Gr.blockOf_keeps (ts := ts) hs n
  have he := Gr.expr_keeps (ts := ts) m
  have ha : s.pos + 1 ≤ (Gr.PS.adv s).pos := Nat.le_refl _
  cases h1 : Gr.isT ts s Gr.wLet with
  | true =>
    rw [stmt_let h1]
    exact .inr (Nat.le_trans ha (Nat.le_trans (Gr.name_keeps.fwd _) (Nat.le_trans (Gr.types_keeps.fwd _) (Nat.le_trans (Gr.want1_fwd _ _) (Nat.le_trans (he.fwd _) (Gr.want1_fwd _ _))))))
  | false =>
    cases h2 : Gr.isT ts s Gr.wIf with
    | true =>
      rw [stmt_if h1 h2]
      exact .inr (Nat.le_trans ha (Nat.le_trans (he.fwd _) (Nat.le_trans (hb.fwd _) (Nat.le_trans (Gr.want1_fwd _ _) (hb.fwd _)))))
    | false =>
      cases h3 : Gr.isT ts s Gr.wWhile with
      | true =>
        rw [stmt_while h1 h2 h3]
        exact .inr (Nat.le_trans ha (Nat.le_trans (he.fwd _) (hb.fwd _)))
      | false =>
        cases h4 : Gr.isT ts s Gr.wPrint with
        | true =>
          rw [stmt_print h1 h2 h3 h4]
          exact .inr (Nat.le_trans ha (Nat.le_trans (he.fwd _) (Gr.want1_fwd _ _)))
        | false =>
          cases h5 : Gr.isT ts s Gr.wDo with
          | true =>
            rw [stmt_do h1 h2 h3 h4 h5]
            exact .inr (Nat.le_trans ha (Nat.le_trans (Gr.name_keeps.fwd _) (Nat.le_trans ((Gr.callOf_keeps he m _).fwd _) (Gr.want1_fwd _ _))))
          | false =>
            rw [stmt_set h1 h2 h3 h4 h5]
            by_cases hk : (Gr.now ts s).kind = 1
            · have e : Gr.name ts s = ((Gr.now ts s).text, Gr.PS.adv s) := by unfold Gr.name; rw [if_pos hk]
              rw [e]
              exact .inr (Nat.le_trans ha (Nat.le_trans (Gr.want1_fwd _ _) (Nat.le_trans (he.fwd _) (Gr.want1_fwd _ _))))
            · have e : Gr.name ts s = ([], Gr.PS.fail s) := by unfold Gr.name; rw [if_neg hk]
              rw [e]
              refine .inl ?_
              show (Gr.want1 ts (Gr.expr ts m (Gr.want1 ts (Gr.PS.fail s) [61])).2 [59]).bad = true
              rw [Gr.want1_bad (s := Gr.PS.fail s) rfl, Gr.expr_bad (s := Gr.PS.fail s) rfl, Gr.want1_bad (s := Gr.PS.fail s) rfl]
              rfl
theorem mu_next {α : Type} {f : PS → α × PS} (hb : s.bad = false) (hp : s.pos ≤ ts.length) (h : (f s).2.bad = true ∨ s.pos + 1 ≤ (f s).2.pos) : muOf ts (f s).2 < muOf ts s := by
  unfold muOf
  rw [hb]
  simp only [Bool.false_eq_true, if_false]
  rcases h with h | h
  · rw [h]
    simp only [if_true]
    omega
  · split <;> omega
theorem till_bad {α : Type} {f : PS → α × PS} (e : List UInt8) (eat : Bool) (hb : s.bad = true) : ∀ n, Gr.till ts e eat f n s = ([], s)
  | 0 => rfl
  | n + 1 => by rw [Gr.till, hb]; rfl
theorem till_end {α : Type} {f : PS → α × PS} {e : List UInt8} {eat : Bool} (hb : s.bad = false) (hi : Gr.isT ts s e = true) (n : Nat) : Gr.till ts e eat f (n + 1) s = ([], if eat then Gr.PS.adv s else s) := by
  rw [Gr.till, hb, if_neg (by decide), if_pos hi]
theorem till_more {α : Type} {f : PS → α × PS} {e : List UInt8} {eat : Bool} (hb : s.bad = false) (hi : Gr.isT ts s e = false) (n : Nat) : Gr.till ts e eat f (n + 1) s = ((f s).1 :: (Gr.till ts e eat f n (f s).2).1, (Gr.till ts e eat f n (f s).2).2) := by
  rw [Gr.till, hb, if_neg (by decide), if_neg (by rw [hi]; decide)]
theorem body_deep (ts : List Tok) (m n : Nat) (s : PS) : (Gr.bodyOf ts (Gr.stmt ts m n) n s).2.deep = s.deep := ((Gr.till_keeps (ts := ts) [125] true (Gr.stmt_keeps m n) n).deep _).trans (Gr.want1_deep _ _)
end
end Go.Proofs.YtljdphpbalioaaaGreatDoor
