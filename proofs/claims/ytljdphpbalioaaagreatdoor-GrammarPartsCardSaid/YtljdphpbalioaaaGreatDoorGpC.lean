/- Plain: how many nodes there are, and what stands in them. -/
import Derived.Test.YtljdphpbalioaaaGreatDoorGpA
import Derived.Test.YtljdphpbalioaaaGreatDoorGrX
namespace Go.Proofs.YtljdphpbalioaaaGreatDoor
open Go.RowKit

namespace Tr
/-- a node as it may be -/
def NodeOk (k : Nat) (nm : Bs) (u : Int) (ty : Nat) (m g : Bs) : Prop := (nm.length ≤ 1000000 ∧ g.length ≤ 1000000 ∧ m.length ≤ 1000000) ∧ k < 256 ∧ ty < 256 ∧ (Lit.int .i64 u).wf = true
mutual
def Good : Tr → Prop
  | .mk k nm u ty m g ks => NodeOk k nm u ty m g ∧ GoodL ks
def GoodL : List Tr → Prop
  | [] => True
  | t :: r => Good t ∧ GoodL r
end
theorem countL_app : ∀ a b : List Tr, countL (a ++ b) = countL a + countL b
  | [], b => by rw [List.nil_append, countL]; omega
  | x :: a, b => by rw [List.cons_append, countL, countL, countL_app a b]; omega
theorem goodL_app : ∀ {a b : List Tr}, GoodL a → GoodL b → GoodL (a ++ b)
  | [], b, _, h => h
  | x :: a, b, ha, hb => by
    rw [GoodL] at ha
    rw [List.cons_append, GoodL]
    exact ⟨ha.1, goodL_app ha.2 hb⟩
theorem good_mk {k : Nat} {nm : Bs} {u : Int} {ty : Nat} {m g : Bs} {ks : List Tr} (h : NodeOk k nm u ty m g) (hk : GoodL ks) : Good (.mk k nm u ty m g ks) := by rw [Good]; exact ⟨h, hk⟩
theorem goodL_one {a : Tr} (ha : Good a) : GoodL [a] := by rw [GoodL, GoodL]; exact ⟨ha, trivial⟩
theorem goodL_two {a b : Tr} (ha : Good a) (hb : Good b) : GoodL [a, b] := by rw [GoodL]; exact ⟨ha, goodL_one hb⟩
theorem goodL_three {a b c : Tr} (ha : Good a) (hb : Good b) (hc : Good c) : GoodL [a, b, c] := by rw [GoodL]; exact ⟨ha, goodL_two hb hc⟩
end Tr
mutual
theorem LT.good_nodes {α : Type} : ∀ (T : LT α), T.bare.Good → ∀ a ∈ T.nodes, Tr.NodeOk a.kind a.name a.num a.typ a.mod a.tgt
  | .mk a k nm u ty m g ks, h, b, hb => by
    rw [LT.bare, Tr.Good] at h
    rw [LT.nodes] at hb
    rcases List.mem_cons.1 hb with h1 | h1
    · rw [h1]; exact h.1
    · exact LT.good_nodesL ks h.2 b h1
theorem LT.good_nodesL {α : Type} : ∀ (l : List (LT α)), Tr.GoodL (LT.bareL l) → ∀ a ∈ LT.nodesL l, Tr.NodeOk a.kind a.name a.num a.typ a.mod a.tgt
  | [], _, b, hb => nomatch hb
  | t :: r, h, b, hb => by
    rw [LT.bareL, Tr.GoodL] at h
    rw [LT.nodesL] at hb
    rcases List.mem_append.1 hb with h1 | h1
    · exact LT.good_nodes t h.1 b h1
    · exact LT.good_nodesL r h.2 b h1
end

namespace Gr
variable {ts : List Tok}
/-- a hand that goes k tokens on, at least -/
def Goes (g : PS → PS) (k : Nat) : Prop := ∀ s, (g s).bad = false → s.bad = false ∧ s.pos + k ≤ (g s).pos
/-- a hand that makes no more than twice the nodes, and k -/
def Cn (f : PS → Tr × PS) (k : Nat) : Prop := ∀ s, (f s).2.bad = false → s.bad = false ∧ (f s).1.count + 2 * s.pos ≤ 2 * (f s).2.pos + k
def CnL (f : PS → List Tr × PS) : Prop := ∀ s, (f s).2.bad = false → s.bad = false ∧ Tr.countL (f s).1 + 2 * s.pos ≤ 2 * (f s).2.pos
theorem adv_goes : Goes PS.adv 1 := fun _ h => ⟨h, Nat.le_refl _⟩
theorem want1_goes (x : List UInt8) : Goes (fun s => want1 ts s x) 1 := fun s h => by
  unfold want1 at h ⊢
  simp only at h ⊢
  by_cases hi : isT ts s x = true
  · rw [if_pos hi] at h ⊢
    exact ⟨h, Nat.le_refl _⟩
  · rw [if_neg hi] at h
    cases h
theorem name_goes : Goes (fun s => (name ts s).2) 1 := fun s h => by
  unfold name at h ⊢
  simp only at h ⊢
  by_cases hi : (now ts s).kind = 1
  · rw [if_pos hi] at h ⊢
    exact ⟨h, Nat.le_refl _⟩
  · rw [if_neg hi] at h
    cases h
theorem types_goes : Goes (fun s => (types ts s).2) 1 := fun s h => by
  unfold types at h ⊢
  simp only at h ⊢
  by_cases hi : isT ts s wInt = true
  · rw [if_pos hi] at h ⊢
    exact ⟨h, Nat.le_refl _⟩
  rw [if_neg hi] at h ⊢
  by_cases hj : isT ts s wBool = true
  · rw [if_pos hj] at h ⊢
    exact ⟨h, Nat.le_refl _⟩
  · rw [if_neg hj] at h
    cases h
theorem within_goes {α : Type} {f : PS → α × PS} (d : α) (s : PS) (h : (within s f d).2.bad = false) : s.bad = false ∧ (within s f d).1 = (f ⟨s.pos, s.deep + 1, false⟩).1 ∧ (f ⟨s.pos, s.deep + 1, false⟩).2.bad = false ∧ (within s f d).2.pos = (f ⟨s.pos, s.deep + 1, false⟩).2.pos := by
  unfold within at h ⊢
  by_cases hi : (s.bad || decide (90 < s.deep + 1)) = true
  · rw [if_pos hi] at h
    cases h
  · rw [if_neg hi] at h ⊢
    refine ⟨?_, rfl, h, rfl⟩
    cases hb : s.bad with
    | false => rfl
    | true => rw [hb] at hi; exact absurd rfl hi
theorem rounds_cn {f : PS → Tr × PS} (e : List UInt8) (hf : Cn f 1) : ∀ n, CnL (rounds ts e f n)
  | 0 => fun s h => ⟨h, by show 0 + 2 * s.pos ≤ 2 * s.pos; omega⟩
  | n + 1 => fun s h => by
    unfold rounds at h ⊢
    by_cases hb : s.bad = true
    · rw [if_pos hb] at h
      exact absurd (hb.symm.trans h) (by decide)
    rw [if_neg hb] at h ⊢
    by_cases hi : isT ts (f s).2 e = true
    · rw [if_pos hi] at h ⊢
      have h1 := hf s h
      refine ⟨h1.1, ?_⟩
      show Tr.countL [(f s).1] + 2 * s.pos ≤ 2 * ((f s).2.pos + 1)
      rw [Tr.countL, Tr.countL]
      omega
    · rw [if_neg hi] at h ⊢
      have h1 := rounds_cn e hf n _ h
      have h2 := want1_goes [44] _ h1.1
      have h3 := hf s h2.1
      refine ⟨h3.1, ?_⟩
      show Tr.countL ((f s).1 :: _) + 2 * s.pos ≤ _
      rw [Tr.countL]
      have h4 := h2.2
      simp only at h4 ⊢
      omega
theorem list_cn {f : PS → Tr × PS} (e : List UInt8) (hf : Cn f 1) (n : Nat) : CnL (listOf ts e f n) := fun s h => by
  unfold listOf at h ⊢
  by_cases hi : isT ts s e = true
  · rw [if_pos hi] at h ⊢
    exact ⟨h, by show 0 + 2 * s.pos ≤ 2 * (s.pos + 1); omega⟩
  · rw [if_neg hi] at h ⊢
    exact rounds_cn e hf n s h
theorem till_cn {f : PS → Tr × PS} (e : List UInt8) (eat : Bool) (hf : Cn f 0) : ∀ n, CnL (till ts e eat f n)
  | 0 => fun s h => ⟨h, by show 0 + 2 * s.pos ≤ 2 * s.pos; omega⟩
  | n + 1 => fun s h => by
    unfold till at h ⊢
    by_cases hb : s.bad = true
    · rw [if_pos hb] at h
      exact absurd (hb.symm.trans h) (by decide)
    rw [if_neg hb] at h ⊢
    by_cases hi : isT ts s e = true
    · rw [if_pos hi] at h ⊢
      cases eat with
      | true => exact ⟨h, by show 0 + 2 * s.pos ≤ 2 * (s.pos + 1); omega⟩
      | false => exact ⟨h, by show 0 + 2 * s.pos ≤ 2 * s.pos; omega⟩
    · rw [if_neg hi] at h ⊢
      have h1 := till_cn e eat hf n _ h
      have h3 := hf s h1.1
      refine ⟨h3.1, ?_⟩
      show Tr.countL ((f s).1 :: _) + 2 * s.pos ≤ _
      rw [Tr.countL]
      have h4 := h1.2
      have h5 := h3.2
      simp only at h4 ⊢
      omega
theorem callOf_cn {f : PS → Tr × PS} (hf : Cn f 1) (n : Nat) (mod : List UInt8) : Cn (callOf ts f n mod) 0 := fun s h => by
  obtain ⟨h1, h2, h3, h4⟩ := within_goes [] _ h
  have h5 := list_cn [41] hf n _ h3
  have h6 := want1_goes [40] _ h5.1
  have h7 := name_goes _ h1
  have h8 := want1_goes [46] _ h7.1
  refine ⟨h8.1, ?_⟩
  show Tr.count (.mk 19 [] 0 0 mod _ (within (name ts (want1 ts s [46])).2 (argsOf ts f n) []).1) + _ ≤ 2 * (within (name ts (want1 ts s [46])).2 (argsOf ts f n) []).2.pos + 0
  rw [Tr.count, h2, h4]
  have h9 := h5.2
  have h10 := h6.2
  have h11 := h7.2
  have h12 := h8.2
  simp only at h9 h10 h11 h12
  show Tr.countL (listOf ts [41] f n _).1 + 1 + 2 * s.pos ≤ 2 * (listOf ts [41] f n _).2.pos + 0
  omega
theorem oneOf_cn {f : PS → Tr × PS} (hf : Cn f 1) (k : Nat) (s : PS) (h : (within (PS.adv s) (oneOf f) []).2.bad = false) : s.bad = false ∧ Tr.count (.mk k [] 0 0 [] [] (within (PS.adv s) (oneOf f) []).1) + 2 * s.pos ≤ 2 * (within (PS.adv s) (oneOf f) []).2.pos + 1 := by
  obtain ⟨h1, h2, h3, h4⟩ := within_goes [] _ h
  have h5 := hf _ h3
  refine ⟨h1, ?_⟩
  rw [Tr.count, h2, h4]
  show Tr.countL [(f _).1] + 1 + 2 * s.pos ≤ 2 * (f _).2.pos + 1
  rw [Tr.countL, Tr.countL]
  have h6 := h5.2
  have h7 : (PS.adv s).pos = s.pos + 1 := rfl
  simp only [h7] at h6 ⊢
  omega
theorem binOf_cn {f : PS → Tr × PS} (hf : Cn f 1) (s : PS) (h : (within (PS.adv s) (binOf ts f) (0, [])).2.bad = false) : s.bad = false ∧ Tr.count (.mk 18 [] (within (PS.adv s) (binOf ts f) (0, [])).1.1 0 [] [] (within (PS.adv s) (binOf ts f) (0, [])).1.2) + 2 * s.pos ≤ 2 * (within (PS.adv s) (binOf ts f) (0, [])).2.pos + 1 := by
  obtain ⟨h1, h2, h3, h4⟩ := within_goes (0, []) _ h
  refine ⟨h1, ?_⟩
  rw [Tr.count, h2, h4]
  obtain ⟨q, hq⟩ : ∃ q : PS, q = ⟨(PS.adv s).pos, (PS.adv s).deep + 1, false⟩ := ⟨_, rfl⟩
  rw [← hq] at h3 ⊢
  have hqp : q.pos = s.pos + 1 := by rw [hq]; rfl
  obtain ⟨o, ho⟩ : ∃ o, o = opNum (now ts (f q).2).text := ⟨_, rfl⟩
  have e1 : (binOf ts f q).1.2 = [(f q).1, (f ⟨(f q).2.pos + 1, (f q).2.deep, (f q).2.bad || decide (o = 0)⟩).1] := by rw [ho]; rfl
  have e2 : (binOf ts f q).2 = want1 ts (f ⟨(f q).2.pos + 1, (f q).2.deep, (f q).2.bad || decide (o = 0)⟩).2 [41] := by rw [ho]; rfl
  rw [e2] at h3 ⊢
  rw [e1, Tr.countL, Tr.countL, Tr.countL]
  have h5 := want1_goes [41] _ h3
  have h6 := hf _ h5.1
  have h7 : (f q).2.bad = false := by
    have := h6.1
    simp only [Bool.or_eq_false_iff] at this
    exact this.1
  have h8 := hf q h7
  have h9 := h5.2
  have h10 := h6.2
  have h11 := h8.2
  simp only at h9 h10 h11
  omega
theorem expr_cn : ∀ n, Cn (expr ts n) 1
  | 0 => fun s h => ⟨h, by show Tr.count (.mk 0 [] 0 0 [] [] []) + 2 * s.pos ≤ 2 * s.pos + 1; rw [Tr.count, Tr.countL]; omega⟩
  | n + 1 => by
    have ih := expr_cn n
    intro s h
    have lf : ∀ k (u : Int) (g : List UInt8), s.bad = false → s.bad = false ∧ (leaf k u g).count + 2 * s.pos ≤ 2 * (PS.adv s).pos + 1 := fun k u g hb => ⟨hb, by
      show Tr.count (.mk k [] u 0 [] g []) + 2 * s.pos ≤ 2 * (s.pos + 1) + 1
      rw [Tr.count, Tr.countL]; omega⟩
    unfold expr at h ⊢
    by_cases k2 : (now ts s).kind = 2
    · rw [if_pos k2] at h ⊢; exact lf _ _ _ h
    rw [if_neg k2] at h ⊢
    by_cases k1 : (now ts s).kind = 1
    · rw [if_pos k1] at h ⊢
      by_cases hd : isT ts (PS.adv s) [46] = true
      · rw [if_pos hd] at h ⊢
        have h1 := callOf_cn ih n _ _ h
        refine ⟨h1.1, ?_⟩
        have h2 := h1.2
        have h7 : (PS.adv s).pos = s.pos + 1 := rfl
        simp only [h7] at h2
        omega
      · rw [if_neg hd] at h ⊢; exact lf _ _ _ h
    rw [if_neg k1] at h ⊢
    by_cases c1 : isT ts s wTrue = true
    · rw [if_pos c1] at h ⊢; exact lf _ _ _ h
    rw [if_neg c1] at h ⊢
    by_cases c2 : isT ts s wFalse = true
    · rw [if_pos c2] at h ⊢; exact lf _ _ _ h
    rw [if_neg c2] at h ⊢
    by_cases c3 : isT ts s wRead = true
    · rw [if_pos c3] at h ⊢; exact lf _ _ _ h
    rw [if_neg c3] at h ⊢
    by_cases c4 : isT ts s [33] = true
    · rw [if_pos c4] at h ⊢; exact oneOf_cn ih 16 s h
    rw [if_neg c4] at h ⊢
    by_cases c5 : isT ts s [45] = true
    · rw [if_pos c5] at h ⊢; exact oneOf_cn ih 17 s h
    rw [if_neg c5] at h ⊢
    by_cases c6 : isT ts s [40] = true
    · rw [if_pos c6] at h ⊢; exact binOf_cn ih s h
    · rw [if_neg c6] at h
      cases h
theorem blockOf_cn {st : PS → Tr × PS} {n : Nat} (hs : CnL (till ts [125] true st n)) : Cn (blockOf ts st n) 0 := fun s h => by
  obtain ⟨h1, h2, h3, h4⟩ := within_goes [] _ h
  have h5 := hs _ h3
  have h6 := want1_goes [123] _ h5.1
  refine ⟨h1, ?_⟩
  show Tr.count (.mk 5 [] 0 0 [] [] (within s (fun s => till ts [125] true st n (want1 ts s [123])) []).1) + _ ≤ 2 * (within s (fun s => till ts [125] true st n (want1 ts s [123])) []).2.pos + 0
  rw [Tr.count, h2, h4]
  have h7 := h5.2
  have h8 := h6.2
  simp only at h7 h8
  show Tr.countL (till ts [125] true st n _).1 + 1 + 2 * s.pos ≤ 2 * (till ts [125] true st n _).2.pos + 0
  omega
theorem stmt_till (m : Nat) (e : List UInt8) (eat : Bool) (k : Nat) : ∀ n, (∀ j, n = j + 1 → Cn (stmt ts m n) 0) → (n = 0 → k = 0) → CnL (till ts e eat (stmt ts m n) k)
  | 0, _, hk => by rw [hk rfl]; exact fun s h => ⟨h, by show 0 + 2 * s.pos ≤ 2 * s.pos; omega⟩
  | j + 1, h, _ => till_cn e eat (h j rfl) k
theorem stmt_step (m n : Nat) (hp : ∀ j, n = j + 1 → Cn (stmt ts m n) 0) : Cn (stmt ts m (n + 1)) 0 := by
    have he := expr_cn (ts := ts) m
    have hb : Cn (blockOf ts (stmt ts m n) n) 0 := blockOf_cn (stmt_till m [125] true n n hp id)
    intro s h
    have ha : (PS.adv s).pos = s.pos + 1 := rfl
    unfold stmt at h ⊢
    by_cases c1 : isT ts s wLet = true
    · rw [if_pos c1] at h ⊢
      have g1 := want1_goes [59] _ h
      have g2 := he _ g1.1
      have g3 := want1_goes [61] _ g2.1
      have g4 := types_goes _ g3.1
      have g5 := name_goes _ g4.1
      refine ⟨g5.1, ?_⟩
      have i1 := g1.2
      have i2 := g2.2
      have i3 := g3.2
      have i4 := g4.2
      have i5 := g5.2
      simp only [ha] at i1 i2 i3 i4 i5 ⊢
      rw [Tr.count, Tr.countL, Tr.countL]
      omega
    rw [if_neg c1] at h ⊢
    by_cases c2 : isT ts s wIf = true
    · rw [if_pos c2] at h ⊢
      have g1 := hb _ h
      have g2 := want1_goes wElse _ g1.1
      have g3 := hb _ g2.1
      have g4 := he _ g3.1
      refine ⟨g4.1, ?_⟩
      have i1 := g1.2
      have i2 := g2.2
      have i3 := g3.2
      have i4 := g4.2
      simp only [ha] at i1 i2 i3 i4 ⊢
      rw [Tr.count, Tr.countL, Tr.countL, Tr.countL, Tr.countL]
      omega
    rw [if_neg c2] at h ⊢
    by_cases c3 : isT ts s wWhile = true
    · rw [if_pos c3] at h ⊢
      have g1 := hb _ h
      have g4 := he _ g1.1
      refine ⟨g4.1, ?_⟩
      have i1 := g1.2
      have i4 := g4.2
      simp only [ha] at i1 i4 ⊢
      rw [Tr.count, Tr.countL, Tr.countL, Tr.countL]
      omega
    rw [if_neg c3] at h ⊢
    by_cases c4 : isT ts s wPrint = true
    · rw [if_pos c4] at h ⊢
      have g1 := want1_goes [59] _ h
      have g4 := he _ g1.1
      refine ⟨g4.1, ?_⟩
      have i1 := g1.2
      have i4 := g4.2
      simp only [ha] at i1 i4 ⊢
      rw [Tr.count, Tr.countL, Tr.countL]
      omega
    rw [if_neg c4] at h ⊢
    by_cases c5 : isT ts s wDo = true
    · rw [if_pos c5] at h ⊢
      have g1 := want1_goes [59] _ h
      have g4 := callOf_cn he m _ _ g1.1
      have g5 := name_goes _ g4.1
      refine ⟨g5.1, ?_⟩
      have i1 := g1.2
      have i4 := g4.2
      have i5 := g5.2
      simp only [ha] at i1 i4 i5 ⊢
      rw [Tr.count, Tr.countL, Tr.countL]
      omega
    · rw [if_neg c5] at h ⊢
      have g1 := want1_goes [59] _ h
      have g4 := he _ g1.1
      have g5 := want1_goes [61] _ g4.1
      have g6 := name_goes _ g5.1
      refine ⟨g6.1, ?_⟩
      have i1 := g1.2
      have i4 := g4.2
      have i5 := g5.2
      have i6 := g6.2
      simp only at i1 i4 i5 i6 ⊢
      rw [Tr.count, Tr.countL, Tr.countL]
      omega
theorem stmt_cn (m : Nat) : ∀ n, Cn (stmt ts m (n + 1)) 0
  | 0 => stmt_step m 0 fun j e => by cases e
  | n + 1 => stmt_step m (n + 1) fun _ _ => stmt_cn m n
theorem param_cn : Cn (param ts) 1 := fun s h => by
  have g1 := types_goes _ h
  have g2 := name_goes _ g1.1
  refine ⟨g2.1, ?_⟩
  have i1 := g1.2
  have i2 := g2.2
  simp only at i1 i2
  show Tr.count (.mk 4 _ 0 _ [] [] []) + 2 * s.pos ≤ 2 * (types ts (name ts s).2).2.pos + 1
  rw [Tr.count, Tr.countL]
  omega
theorem funcOf_cn (m : Nat) : Cn (funcOf ts m) 0 := fun s h => by
  have he := expr_cn (ts := ts) m
  have ht : CnL (till ts wReturn false (stmt ts m m) m) := stmt_till m wReturn false m m (fun j e => by rw [e]; exact stmt_cn _ j) id
  have g0 := want1_goes [125] _ h
  have g1 := want1_goes [59] _ g0.1
  have g2 := he _ g1.1
  have g3 := want1_goes wReturn _ g2.1
  have g4 := ht _ g3.1
  have g5 := want1_goes [123] _ g4.1
  have g6 := types_goes _ g5.1
  have g7 := list_cn [41] param_cn m _ g6.1
  have g8 := want1_goes [40] _ g7.1
  have g9 := name_goes _ g8.1
  have g10 := want1_goes wFunc _ g9.1
  refine ⟨g10.1, ?_⟩
  have i0 := g0.2
  have i1 := g1.2
  have i2 := g2.2
  have i3 := g3.2
  have i4 := g4.2
  have i5 := g5.2
  have i6 := g6.2
  have i7 := g7.2
  have i8 := g8.2
  have i9 := g9.2
  have i10 := g10.2
  clear g0 g1 g2 g3 g4 g5 g6 g7 g8 g9 g10
  unfold funcOf at h ⊢
  simp only [want] at i0 i1 i2 i3 i4 i5 i6 i7 i8 i9 i10 ⊢
  rw [Tr.count, Tr.countL_app, Tr.countL, Tr.countL, Tr.count, Tr.countL_app, Tr.countL, Tr.countL, Tr.count, Tr.countL, Tr.countL]
  omega
theorem modOf_cn (m : Nat) : Cn (modOf ts m) 0 := fun s h => by
  have g1 := till_cn [125] true (funcOf_cn m) m _ h
  have g2 := want1_goes [123] _ g1.1
  have g3 := name_goes _ g2.1
  have g4 := want1_goes wModule _ g3.1
  refine ⟨g4.1, ?_⟩
  have i1 := g1.2
  have i2 := g2.2
  have i3 := g3.2
  have i4 := g4.2
  unfold modOf at h ⊢
  simp only at i1 i2 i3 i4 ⊢
  rw [Tr.count]
  omega
theorem mods_cn (m : Nat) : ∀ n, (∀ s, Ok ts s → Ok ts (mods ts m n s).2) ∧ ∀ s, (mods ts m n s).2.bad = false → Tr.countL (mods ts m n s).1 + 2 * s.pos ≤ 2 * (mods ts m n s).2.pos
  | 0 => ⟨fun s h => h, fun s _ => by show 0 + 2 * s.pos ≤ 2 * s.pos; omega⟩
  | n + 1 => by
    have ih := mods_cn m n
    refine ⟨fun s h => ?_, fun s h => ?_⟩
    · unfold mods
      split
      · exact h
      · exact ih.1 _ ((modOf_keeps m).ok s h)
    · unfold mods at h ⊢
      by_cases hb : (s.bad || decide (ts.length ≤ s.pos)) = true
      · rw [if_pos hb]
        show 0 + 2 * s.pos ≤ 2 * s.pos
        omega
      · rw [if_neg hb] at h ⊢
        have h1 := ih.2 _ h
        have hm : (modOf ts m s).2.bad = false := by
          cases hm : (modOf ts m s).2.bad with
          | false => rfl
          | true =>
            exfalso
            cases n with
            | zero => exact absurd (hm.symm.trans h) (by decide)
            | succ n =>
              simp only [mods, hm, Bool.true_or, if_true] at h
              exact absurd h (by decide)
        have h2 := modOf_cn m s hm
        show Tr.countL ((modOf ts m s).1 :: _) + 2 * s.pos ≤ _
        rw [Tr.countL]
        have h3 := h2.2
        simp only at h1 ⊢
        omega
theorem program_count (m : Nat) (h : (program ts m).2.bad = false) : (program ts m).1.count ≤ 2 * ts.length + 1 := by
  obtain ⟨h1, h2⟩ := mods_cn (ts := ts) m m
  have h3 := h2 ⟨0, 0, false⟩ h
  have h4 := (h1 ⟨0, 0, false⟩ ⟨Nat.zero_le _, Nat.zero_le _, fun _ => Nat.zero_le _⟩).here h
  show Tr.count (.mk 1 [] 0 0 [] [] (mods ts m m ⟨0, 0, false⟩).1) ≤ _
  rw [Tr.count]
  simp only at h3
  omega
end Gr
end Go.Proofs.YtljdphpbalioaaaGreatDoor
