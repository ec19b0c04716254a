/- Plain: a range over a function whose iterator has blocks of its own. No program is in sight. -/
import Derived.Test.YtnbncjebmlicgaaApp
import Derived.RangeFuncNested
import Derived.RangeFuncBound
import Derived.RangeFuncCalls
import Derived.RangeFuncLeaves
namespace Go.Proofs.Ytnbncjebmlicgaa
open Go Go.RowKit

/-- what an iterator keeps its hands off: all that lay ahead of it, and what is the caller's -/
def Steps (B : Nat) (C : Nat → Prop) (A A' : World) : Prop := Only A A' (fun q => B ≤ q ∧ ¬ C q)
/-- a caller's word, with the blocks it speaks of and may turn -/
def Holds {α : Type} (B : Nat) (J : List α → (Nat → Prop) → World → Prop) : Prop := ∀ pre C A A', J pre C A → Steps B C A A' → J pre C A'

/-- the contract of an iterator that has blocks of its own -/
def SeqOwn {α : Type} (F : Fence) (n : Nat) (P : Program) (g : Nat) (lb : Array Value) (encs : α → Array Value) (G : α → World → Prop) (Pre : List α → α → Prop) (S Sp : List α → Prop) (Safe : Nat → Prop) (w : World) : Prop :=
  ∀ (l : Nat) (J Jx : List α → (Nat → Prop) → World → Prop) (C0 : Nat → Prop) (W : World), Below w.heap.size w W → Holds W.heap.size J → Holds W.heap.size Jx →
    (∀ pre C A, J pre C A → ∀ q, C q → q < A.heap.size) → (∀ q, C0 q → Safe q) →
    (∀ pre x C A, J pre C A → G x A → Pre pre x → YieldAt F (n - 1) P l (encs x) A fun e A' => Only A A' C ∧ ∃ C' : Nat → Prop, (∀ q, C' q → C q ∨ A.heap.size ≤ q) ∧
      ((e = .returned (.bool true) ∧ J (pre ++ [x]) C' A') ∨ (e = .returned (.bool false) ∧ Jx (pre ++ [x]) C' A'))) →
    J [] C0 W →
    CallsIn F n P g (#[.func (.yield l) #[] #[]] ++ lb) W fun e W' => (∃ v, e = .returned v) ∧ ((∃ xs C, S xs ∧ J xs C W') ∨ (∃ pre C, Sp pre ∧ Jx pre C W'))

/-- how the body of a round may be left -/
def seqPost {α : Type} (I : List α → (Nat → Prop) → World → Prop) (Ix : Code → List α → (Nat → Prop) → World → Prop) (xs : List α) (C : Nat → Prop) (A : World) : Exit → Act → World → Prop
  | .normal, _, A' => Only A A' C ∧ ∃ C' : Nat → Prop, (∀ q, C' q → C q ∨ A.heap.size ≤ q) ∧ I xs C' A'
  | .ret, _, A' => Only A A' C ∧ ∃ C' : Nat → Prop, (∀ q, C' q → C q ∨ A.heap.size ≤ q) ∧ Ix .ret xs C' A'
  | .exit id, _, A' => Only A A' C ∧ ∃ C' : Nat → Prop, (∀ q, C' q → C q ∨ A.heap.size ≤ q) ∧ Ix (.exit id) xs C' A'
  | .goto t, _, A' => Only A A' C ∧ ∃ C' : Nat → Prop, (∀ q, C' q → C q ∨ A.heap.size ≤ q) ∧ Ix (.goto t) xs C' A'
  | .panic _, _, _ => False
  | .outgrown, _, _ => False

theorem Only.putObj (W : World) (l : Nat) (o : Obj) : Only W (W.putObj l o) (fun q => q = l) :=
  ⟨rfl, rfl, rfl, by simp, fun k _ hk => World.putObj_heap_other hk⟩

variable {F : Fence} {n : Nat} {P : Program}

/-- the statement 'for .. := range seq', over such an iterator -/
theorem wpIn_rangeFunc_seq {α : Type} {g : Operand} {ps : Array Tmp} {assign body : Code} {Q : Exit → Act → World → Prop} {a : Act} {w : World}
    (hro : F.round = none) (h1 : 1 ≤ n) {gf : Nat} {lb : Array Value} (hg : a.eval g = .func (.func gf) #[] lb) (hFg : F.fn gf) (eg : ∀ args w, (callFunc gf args).run P w = .ok (.enter gf args) w)
    {encs : α → Array Value} {G : α → World → Prop} {Pre : List α → α → Prop} {S Sp : List α → Prop} {Safe : Nat → Prop} {w0 : World} (hseq : SeqOwn F (n - 1) P gf lb encs G Pre S Sp Safe w0)
    (hG : ∀ x A r o o', G x A → A.heap[r]? = some o → o.isCells = false → G x (A.putObj r o')) (hb0 : Below w0.heap.size w0 w) (hn0 : Safe (w.heap.size + 1)) (hps : ∀ x, (encs x).size = ps.size)
    (I : List α → (Nat → Prop) → World → Prop) (Ix : Code → List α → (Nat → Prop) → World → Prop) (C0 : Nat → Prop) (hI : Holds w.heap.size I) (hIx : ∀ c, Holds w.heap.size (Ix c))
    (hIs : ∀ pre C A, I pre C A → ∀ q, C q → q < A.heap.size) (hC0 : ∀ q, C0 q → Safe q) (h0 : I [] C0 w) (a₁ : α → Act)
    (hassign : ∀ (l : Nat) (x : α) (W : World) (K : Act → World → Prop), K (a₁ x) W →
      assign.wpIn (F.inRound l) (n - 1 - 1) P (Exit.then K (fun _ _ _ => False)) { tmps := (ps.zip (encs x)).foldl (fun t (p, v) => t.setIfInBounds p v) a.tmps, defers := [] } W)
    (hbody : ∀ (l : Nat) (pre : List α) (x : α) (C : Nat → Prop) (A : World), I pre C A → G x A → Pre pre x → body.wpIn (F.inRound l) (n - 1 - 1) P (seqPost I Ix (pre ++ [x]) C A) (a₁ x) A)
    (hdone : ∀ (D : Nat) (xs : List α) (C : Nat → Prop) (W : World), w.heap.size ≤ D → S xs → I xs C W → W.heap[D]? = some (.deferred (some [])) → Q .normal { a with defers := { target := .collected D, args := #[] } :: a.defers } W)
    (hstop : ∀ (D : Nat) (c : Code) (pre : List α) (C : Nat → Prop) (W : World), w.heap.size ≤ D → Sp pre → Ix c pre C W → W.heap[D]? = some (.deferred (some [])) → c.wpIn F n P Q { a with defers := { target := .collected D, args := #[] } :: a.defers } W) :
    (Code.rangeFunc g ps assign body).wpIn F n P Q a w := by
  refine wpIn_rangeFunc ?_
  intro fn hfn
  rw [hro]
  obtain ⟨rec, hrec⟩ : ∃ rec : LoopState → Option Code → Loop, rec = fun st pe => { state := st, pending := pe, fn, tmps := a.tmps, params := ps, assign, body, defers := w.heap.size } := ⟨_, rfl⟩
  obtain ⟨W1, hW1⟩ : ∃ W1, (w.alloc (.deferred (some []))).alloc (.loop (rec .ready none)) = W1 := ⟨_, rfl⟩
  have hs1 : W1.heap.size = w.heap.size + 2 := by rw [← hW1]; simp
  have hL1 : W1.heap[w.heap.size + 1]? = some (.loop (rec .ready none)) := by
    rw [← hW1]; have := World.alloc_heap_new (w.alloc (.deferred (some []))) (.loop (rec .ready none)); rwa [World.size_alloc] at this
  have hK1 : W1.heap[w.heap.size]? = some (.deferred (some [])) := by
    rw [← hW1]; exact (Below.heap_alloc _ _ _ (by simp)).trans (World.alloc_heap_new w _)
  have hb1' : Below w.heap.size w W1 := by rw [← hW1]; exact (((Below.refl _ w).alloc (Nat.le_refl _) _).alloc (by simp) _)
  have hI1 : I [] C0 W1 := hI _ _ _ _ h0 ((Only.of_below hb1' fun _ => False).mono fun _ _ h => h.elim)
  have hb1 : Below w0.heap.size w0 W1 := hb0.trans (hb1'.mono hb0.size)
  -- a turn of a block of book-keeping
  have turn : ∀ {J : List α → (Nat → Prop) → World → Prop} {pre : List α} {C : Nat → Prop} {A : World} (o : Obj), Holds w.heap.size J → ¬ C (w.heap.size + 1) → J pre C A → J pre C (A.putObj (w.heap.size + 1) o) := fun o hJ hc h => hJ _ _ _ _ h ((Only.putObj _ _ _).mono fun i _ e => by subst e; exact ⟨by omega, hc⟩)
  refine ⟨w.heap.size + 1, [{ target := .collected w.heap.size, args := #[] }], W1, { target := .fn (.func gf) lb, args := #[.func (.yield (w.heap.size + 1)) #[] #[]] }, W1, gf,
    #[.func (.yield (w.heap.size + 1)) #[] #[]] ++ lb, W1, ?_, ?_, ?_, ?_, fun _ => h1, ?_⟩
  · rw [← hW1, hrec]; exact run_enterLoop_outer _ _ _ _ _
  · simp only [resolve, hg]
    simp [go_sem]
  · intro f' hf'; simp [Target.leads] at hf'; subst hf'; exact hFg
  · simp [invoke, go_sem, eg]
  · refine (hseq (w.heap.size + 1)
      (fun pre C A => ∃ C1 : Nat → Prop, (∀ q, C q ↔ C1 q ∨ q = w.heap.size + 1) ∧ ¬ C1 (w.heap.size + 1) ∧ ¬ C1 w.heap.size ∧ I pre C1 A ∧ A.heap[w.heap.size + 1]? = some (.loop (rec .ready none)) ∧ A.heap[w.heap.size]? = some (.deferred (some [])))
      (fun pre C A => ∃ C1 : Nat → Prop, (∀ q, C q ↔ C1 q ∨ q = w.heap.size + 1) ∧ ¬ C1 (w.heap.size + 1) ∧ ¬ C1 w.heap.size ∧ ∃ c, Ix c pre C1 A ∧ A.heap[w.heap.size + 1]? = some (.loop (rec .done (some c))) ∧ A.heap[w.heap.size]? = some (.deferred (some [])))
      (fun q => C0 q ∨ q = w.heap.size + 1) W1 hb1 ?_ ?_ ?_ ?_ ?_ ?_).mono ?_
    · rintro pre C A A' ⟨C1, hC, hl1, hl2, hi, hl, hk⟩ hst
      refine ⟨C1, hC, hl1, hl2, hI _ _ _ _ hi (hst.mono fun i _ h => ⟨by omega, fun hc => h.2 ((hC i).2 (.inl hc))⟩), ?_, ?_⟩
      · exact (hst.block _ (Array.getElem?_eq_some_iff.1 hl).1 fun h => by omega).trans hl
      · exact (hst.block _ (Array.getElem?_eq_some_iff.1 hk).1 fun h => by omega).trans hk
    · rintro pre C A A' ⟨C1, hC, hl1, hl2, c, hi, hl, hk⟩ hst
      refine ⟨C1, hC, hl1, hl2, c, hIx c _ _ _ _ hi (hst.mono fun i _ h => ⟨by omega, fun hc => h.2 ((hC i).2 (.inl hc))⟩), ?_, ?_⟩
      · exact (hst.block _ (Array.getElem?_eq_some_iff.1 hl).1 fun h => by omega).trans hl
      · exact (hst.block _ (Array.getElem?_eq_some_iff.1 hk).1 fun h => by omega).trans hk
    · rintro pre C A ⟨C1, hC, hl1, hl2, hi, hl, hk⟩ q hq
      rcases (hC q).1 hq with h | rfl
      · exact hIs _ _ _ hi q h
      · exact (Array.getElem?_eq_some_iff.1 hl).1
    · rintro q (h | rfl)
      · exact hC0 q h
      · exact hn0
    · -- one round
      rintro pre x C W ⟨C1, hC, hl1, hl2, hi, hl, hk⟩ hgx hpre
      have hlt : w.heap.size + 1 < W.heap.size := (Array.getElem?_eq_some_iff.1 hl).1
      have hy := run_yield (P := P) (args := encs x) hl (by rw [hrec]; exact hps x)
      rw [hrec] at hy
      refine ⟨fn, _, assign, body, hy, roundIn_of_wpIn hfn (hassign _ x W _ ⟨_, run_beginRound hl (by rw [hrec]), ?_⟩)⟩
      have hl2' : (W.putObj (w.heap.size + 1) (.loop { rec .ready none with state := .busy })).heap[w.heap.size + 1]? = some (.loop { rec .ready none with state := .busy }) := World.putObj_heap_same hlt
      have hk2 : (W.putObj (w.heap.size + 1) (.loop { rec .ready none with state := .busy })).heap[w.heap.size]? = some (.deferred (some [])) := (World.putObj_heap_other (by omega)).trans hk
      have hw2 : Only W (W.putObj (w.heap.size + 1) (.loop { rec .ready none with state := .busy })) (fun q => q = w.heap.size + 1) := Only.putObj _ _ _
      refine wpIn_mono (hbody _ pre x C1 _ (turn _ hI hl1 hi) (hG _ _ _ _ _ hgx hl rfl) hpre) ?_
      have fin : ∀ (jump : Option Code) (C' : Nat → Prop) (W3 : World), Only (W.putObj (w.heap.size + 1) (.loop { rec .ready none with state := .busy })) W3 C1 → (∀ q, C' q → C1 q ∨ W.heap.size ≤ q) →
          (Instr.endRound (w.heap.size + 1) jump).run P W3 = .ok (.bool jump.isNone) (W3.putObj (w.heap.size + 1) (.loop (rec (if jump.isNone then .ready else .done) jump))) ∧
          (W3.putObj (w.heap.size + 1) (.loop (rec (if jump.isNone then .ready else .done) jump))).heap[w.heap.size + 1]? = some (.loop (rec (if jump.isNone then .ready else .done) jump)) ∧
          (W3.putObj (w.heap.size + 1) (.loop (rec (if jump.isNone then .ready else .done) jump))).heap[w.heap.size]? = some (.deferred (some [])) ∧
          Only W (W3.putObj (w.heap.size + 1) (.loop (rec (if jump.isNone then .ready else .done) jump))) C ∧ ¬ C' (w.heap.size + 1) ∧ ¬ C' w.heap.size ∧
          (∀ q, C' q ∨ q = w.heap.size + 1 → C q ∨ W.heap.size ≤ q) := fun jump C' W3 hk3 hC' => by
        have hl3 := (hk3.block _ (by rw [World.putObj_size]; omega) hl1).trans hl2'
        have := run_endRound (P := P) jump hl3
        rw [hrec] at this ⊢
        refine ⟨this, World.putObj_heap_same (Array.getElem?_eq_some_iff.1 hl3).1, (World.putObj_heap_other (by omega)).trans ((hk3.block _ (by rw [World.putObj_size]; omega) hl2).trans hk2), ?_, fun h => ?_, fun h => ?_, fun q hq => ?_⟩
        · refine ((hw2.mono (T := C) fun i _ e => (hC i).2 (.inr e)).trans (hk3.mono (T := C) fun i _ h => (hC i).2 (.inl h)) fun i _ h => h).trans ((Only.putObj _ _ _).mono (T := C) fun i _ e => (hC i).2 (.inr e)) fun i _ h => h
        · rcases hC' _ h with h | h
          · exact hl1 h
          · omega
        · rcases hC' _ h with h | h
          · exact hl2 h
          · omega
        · rcases hq with h | rfl
          · rcases hC' _ h with h | h
            · exact .inl ((hC q).2 (.inl h))
            · exact .inr h
          · exact .inl ((hC _).2 (.inr rfl))
      rintro e a3 W3 hp
      cases e with
      | normal =>
        obtain ⟨hk3, C', hC', hi3⟩ := hp
        obtain ⟨hr, hl4, hk4, ho, hc1, hc2, hq⟩ := fin none C' W3 hk3 (by simpa using hC')
        exact ⟨_, _, hr, ho, fun q => C' q ∨ q = w.heap.size + 1, hq, .inl ⟨rfl, C', fun _ => Iff.rfl, hc1, hc2, turn _ hI hc1 hi3, hl4, hk4⟩⟩
      | ret =>
        obtain ⟨hk3, C', hC', hi3⟩ := hp
        obtain ⟨hr, hl4, hk4, ho, hc1, hc2, hq⟩ := fin (some .ret) C' W3 hk3 (by simpa using hC')
        exact ⟨_, _, hr, ho, fun q => C' q ∨ q = w.heap.size + 1, hq, .inr ⟨rfl, C', fun _ => Iff.rfl, hc1, hc2, .ret, turn _ (hIx _) hc1 hi3, hl4, hk4⟩⟩
      | exit id =>
        obtain ⟨hk3, C', hC', hi3⟩ := hp
        obtain ⟨hr, hl4, hk4, ho, hc1, hc2, hq⟩ := fin (some (.exit id)) C' W3 hk3 (by simpa using hC')
        exact ⟨_, _, hr, ho, fun q => C' q ∨ q = w.heap.size + 1, hq, .inr ⟨rfl, C', fun _ => Iff.rfl, hc1, hc2, .exit id, turn _ (hIx _) hc1 hi3, hl4, hk4⟩⟩
      | goto t =>
        obtain ⟨hk3, C', hC', hi3⟩ := hp
        obtain ⟨hr, hl4, hk4, ho, hc1, hc2, hq⟩ := fin (some (.goto t)) C' W3 hk3 (by simpa using hC')
        exact ⟨_, _, hr, ho, fun q => C' q ∨ q = w.heap.size + 1, hq, .inr ⟨rfl, C', fun _ => Iff.rfl, hc1, hc2, .goto t, turn _ (hIx _) hc1 hi3, hl4, hk4⟩⟩
      | panic ch => exact hp.elim
      | outgrown => exact hp.elim
    · exact ⟨C0, fun _ => Iff.rfl, fun h => by have := hIs _ _ _ h0 _ h; omega, fun h => by have := hIs _ _ _ h0 _ h; omega, hI1, hL1, hK1⟩
    · rintro e W2 ⟨⟨v, rfl⟩, (⟨xs, C, hS, C1, hC, hc1, hc2, hi, hl, hk⟩ | ⟨pre, C, hSp, C1, hC, hc1, hc2, c, hi, hl, hk⟩)⟩
      · exact ⟨none, _, by have := run_endLoop (P := P) hl (by rw [hrec]; simp); rw [hrec] at this; exact this, hdone _ xs C1 _ (Nat.le_refl _) hS (turn _ hI hc1 hi) ((World.putObj_heap_other (by omega)).trans hk)⟩
      · exact ⟨some c, _, by have := run_endLoop (P := P) hl (by rw [hrec]; simp); rw [hrec] at this; exact this, hstop _ c pre C1 _ (Nat.le_refl _) hSp (turn _ (hIx c) hc1 hi) ((World.putObj_heap_other (by omega)).trans hk)⟩
end Go.Proofs.Ytnbncjebmlicgaa
