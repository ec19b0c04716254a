/- What the namer knows of all functions, in memory. No walk. -/
import Derived.Test.YtljdphpbalioaaaGreatDoorGnW
namespace Go.Proofs.YtljdphpbalioaaaGreatDoor
open Go.RowKit

def encF (k : Bs × Bs) : Value := fullV k.1 k.2
theorem encF_inj (a b : Bs × Bs) (h : encF a = encF b) : a = b := by
  unfold encF fullV at h
  injection h with h
  have h1 := congrArg Array.toList h
  simp only [List.cons.injEq, and_true] at h1
  obtain ⟨h2, h3⟩ := h1
  injection h2 with h2
  injection h3 with h3
  exact Prod.ext (mk8_inj h2) (mk8_inj h3)
/-- the functions' map -/
def FunM (w : World) (L : List (LT Nat)) (bf c : Nat) (fs : Bs × Bs → Option Nat) : Prop := (∃ f, MapV Tryz.prog 81 encF w bf c f ∧ ∀ k, f k = (fs k).map ptrG) ∧ ∀ k b, fs k = some b → Lb L b
theorem FunM.only {w w' : World} {L : List (LT Nat)} {bf c : Nat} {fs : Bs × Bs → Option Nat} {S : Nat → Prop} (h : FunM w L bf c fs) (ho : Only w w' S) (hs : ¬ S bf) : FunM w' L bf c fs := by
  obtain ⟨⟨f, h1, h2⟩, h3⟩ := h
  exact ⟨⟨f, h1.only ho hs, h2⟩, h3⟩
theorem FunM.mono {w : World} {L : List (LT Nat)} {bf c c' : Nat} {fs : Bs × Bs → Option Nat} (h : FunM w L bf c fs) (hc : c ≤ c') : FunM w L bf c' fs := by
  obtain ⟨⟨f, h1, h2⟩, h3⟩ := h
  exact ⟨⟨f, h1.mono hc, h2⟩, h3⟩
theorem FunM.obj {w : World} {L : List (LT Nat)} {bf c : Nat} {fs : Bs × Bs → Option Nat} (h : FunM w L bf c fs) : ∃ es t, w.heap[bf]? = some (.map es t) := by
  obtain ⟨⟨f, h1, -⟩, -⟩ := h
  exact h1.obj
/-- what the namer may turn: nodes, and what is its own but for what is kept -/
def Far (N0 : Nat) (L : List (LT Nat)) (Keep : List Nat) (k : Nat) : Prop := (k < N0 ∧ Lb L k) ∨ (N0 ≤ k ∧ k ∉ Keep)
def Rob (S : Nat → Prop) (J : World → Prop) (w : World) : Prop := ∀ w', Only w w' S → J w'
theorem Rob.turn {S T : Nat → Prop} {J : World → Prop} {w w' : World} (h : Rob S J w) (ho : Only w w' T) (hT : ∀ k, k < w.heap.size → T k → S k) : Rob S J w' := fun w2 h2 => h w2 ((ho.mono hT).trans h2 fun _ _ h => h)
theorem Rob.here {S : Nat → Prop} {J : World → Prop} {w : World} (h : Rob S J w) : J w := h w (Only.refl _ _)
/-- what is kept is a map, or an arena -/
def KeepOk (Keep : List Nat) (w : World) : Prop := ∀ k ∈ Keep, (∃ es t, w.heap[k]? = some (.map es t)) ∨ ∃ cs fr, w.heap[k]? = some (.cells cs 61 fr)
structure FsM (J : World → Prop) (Keep : List Nat) (gm N0 : Nat) (L : List (LT Nat)) (I : Nat → Nat) (ga : Value) (n bf : Nat) (mm : Value) (w : World) (fs : Nm.Fs Nat) (c : Nat) (cv uv sv : Value) : Prop where
  mem : MemT w N0 L I fs.ref (fun _ => .slice none 0 0)
  box : BoxM w gm ga n (.map (some bf)) mm cv uv sv
  funcs : FunM w L bf c fs.funcs
  calls : OwnPtrs N0 w cv (fs.calls.map fun c => ptrG c.2.2)
  callsL : ∀ c ∈ fs.calls, ∃ a ∈ L, a.lab = c.2.2 ∧ a.mod = c.1 ∧ a.tgt = c.2.1
  low : N0 ≤ gm ∧ N0 ≤ bf ∧ gm ∉ Keep ∧ bf ∉ Keep
  few : fs.calls.length ≤ c
  short : ∀ a ∈ L, a.name.length ≤ 1000000 ∧ a.tgt.length ≤ 1000000 ∧ a.mod.length ≤ 1000000
  inv : Rob (Far N0 L Keep) J w
  keep : KeepOk Keep w
section
variable {J : World → Prop} {Keep : List Nat} {gm N0 : Nat} {L : List (LT Nat)} {I : Nat → Nat} {ga : Value} {n bf : Nat} {mm : Value} {w w' : World} {fs : Nm.Fs Nat} {c : Nat} {cv uv sv : Value}
theorem KeepOk.below (h : KeepOk Keep w) (hb : Below w.heap.size w w') : KeepOk Keep w' := fun k hk => by
  rcases h k hk with ⟨es, t, h1⟩ | ⟨cs, fr, h1⟩
  · exact .inl ⟨es, t, (hb.block k (Array.getElem?_eq_some_iff.1 h1).1).trans h1⟩
  · exact .inr ⟨cs, fr, (hb.block k (Array.getElem?_eq_some_iff.1 h1).1).trans h1⟩
theorem KeepOk.lt (h : KeepOk Keep w) {k : Nat} (hk : k ∈ Keep) : k < w.heap.size := by
  rcases h k hk with ⟨es, t, h1⟩ | ⟨cs, fr, h1⟩ <;> exact (Array.getElem?_eq_some_iff.1 h1).1
theorem KeepOk.rowNe (h : KeepOk Keep w) {k : Nat} {e base size m : Nat} {v : Value} {xs : List Value} (hr : w.ownsRow base e size v m xs) (he : 61 ≠ e) (hv : v.ownBlock = some k) : k ∉ Keep := fun hk => by
  obtain ⟨cur, hc⟩ := own_block hr hv
  rcases h k hk with ⟨es, t, h1⟩ | ⟨cs, fr, h1⟩
  · rw [h1] at hc; cases hc
  · rw [h1] at hc; cases hc; exact he rfl
theorem FsM.below (h : FsM J Keep gm N0 L I ga n bf mm w fs c cv uv sv) (hb : Below w.heap.size w w') : FsM J Keep gm N0 L I ga n bf mm w' fs c cv uv sv := by
  have ho : Only w w' (fun _ => False) := Only.of_below hb _
  exact ⟨h.mem.below hb, h.box.only ho (fun h => h), h.funcs.only ho (fun h => h), own_only h.calls ho fun _ _ h => h, h.callsL, h.low, h.few, h.short, h.inv.turn ho fun _ _ h => h.elim, h.keep.below hb⟩
theorem FsM.mono (h : FsM J Keep gm N0 L I ga n bf mm w fs c cv uv sv) {c' : Nat} (hc : c ≤ c') : FsM J Keep gm N0 L I ga n bf mm w fs c' cv uv sv :=
  ⟨h.mem, h.box, h.funcs.mono hc, h.calls, h.callsL, h.low, Nat.le_trans h.few hc, h.short, h.inv, h.keep⟩
/-- a function more -/
theorem FsM.stored (h : FsM J Keep gm N0 L I ga n bf mm w fs c cv uv sv) (key : Bs × Bs) {b : Nat} (hb : Lb L b) {N : Nat} {f : Bs × Bs → Option Value} (hf : MapV Tryz.prog 81 encF w' bf N (putV f key (ptrG b))) (hN : N ≤ c + 1) (hu : ∀ k, f k = (fs.funcs k).map ptrG) (ho : Only w w' (fun q => q = bf)) :
    FsM J Keep gm N0 L I ga n bf mm w' ⟨Nm.putF fs.funcs key b, fs.calls, fs.ref⟩ (c + 1) cv uv sv := by
  obtain ⟨es, t, hobj⟩ := h.funcs.obj
  have hcell : ∀ {k : Nat} {cs : Array Value} {t' : TypeId} {fr : Nat × Nat}, w.heap[k]? = some (.cells cs t' fr) → k ≠ bf := fun h1 e => by rw [e, hobj] at h1; cases h1
  refine ⟨h.mem.only ho (fun k hk e => by have e : k = bf := e; have := h.low.2.1; omega), h.box.only ho (fun e => hcell h.box e), ⟨⟨_, hf.mono hN, fun k => ?_⟩, fun k b2 hk => ?_⟩, own_only h.calls ho (fun k hk e => by
    obtain ⟨c1, h1⟩ := own_block h.calls hk
    exact hcell h1 e), h.callsL, h.low, Nat.le_succ_of_le h.few, h.short, h.inv.turn ho (fun k _ e => .inr ⟨by rw [show k = bf from e]; exact h.low.2.1, by rw [show k = bf from e]; exact h.low.2.2.2⟩), fun k hk => ?_⟩
  · show putV f key (ptrG b) k = (Nm.putF fs.funcs key b k).map ptrG
    unfold putV Nm.putF
    by_cases hk : k = key
    · simp [hk]
    · rw [if_neg hk, if_neg hk, hu k]
  · simp only [Nm.putF] at hk
    by_cases hkk : k = key
    · rw [if_pos hkk] at hk
      cases hk
      exact hb
    · rw [if_neg hkk] at hk
      exact h.funcs.2 k b2 hk
  · have hne : ¬ k = bf := fun e => h.low.2.2.2 (e ▸ hk)
    rcases h.keep k hk with ⟨es, t, h1⟩ | ⟨cs, fr, h1⟩
    · exact .inl ⟨es, t, (ho.block k (Array.getElem?_eq_some_iff.1 h1).1 hne).trans h1⟩
    · exact .inr ⟨cs, fr, (ho.block k (Array.getElem?_eq_some_iff.1 h1).1 hne).trans h1⟩
/-- inside a function: nothing used, one scope -/
theorem FsM.inside (h : FsM J Keep gm N0 L I ga n bf mm w fs c cv uv sv) :
    VisM (fun w' => Rob (Far N0 L Keep) J w' ∧ FunM w' L bf c fs.funcs ∧ KeepOk Keep w') gm N0 L I ga n (.map (some bf)) mm
      (((((w.alloc (.map #[] 0)).alloc (.map #[] 0)).alloc (.cells #[.map (some (w.heap.size + 1))] 99)).setCell ⟨gm, 5, none⟩ (.map (some w.heap.size))).setCell ⟨gm, 6, none⟩ (.slice (some ⟨w.heap.size + 1 + 1, 0, none⟩) 1 1))
      ⟨fun _ => false, [fun _ => none], fs.calls, fs.ref⟩ (c + 1) w.heap.size [w.heap.size + 1] cv (.slice (some ⟨w.heap.size + 1 + 1, 0, none⟩) 1 1) := by
  have hgl := (Array.getElem?_eq_some_iff.1 h.box).1
  have hN : N0 ≤ w.heap.size := by have := h.low.1; omega
  have hb1 := bal (bre w) (.map #[] 0)
  have hm1 := MapV.new (enc := encS) Tryz.prog 9 w
  have hs1 : (w.alloc (.map #[] 0)).heap.size = w.heap.size + 1 := by simp
  have h1 := h.below hb1
  generalize w.alloc (.map #[] 0) = w1 at *
  have hb2 := bal (bre w1) (.map #[] 0)
  have hm2 := MapV.new (enc := encS) Tryz.prog 9 w1
  rw [hs1] at hm2
  have hs2 : (w1.alloc (.map #[] 0)).heap.size = w.heap.size + 1 + 1 := by simp; omega
  have h2 := h1.below hb2
  have hm1b := hm1.below hb2
  generalize w1.alloc (.map #[] 0) = w2 at *
  have hb3 := bal (bre w2) (.cells #[.map (some (w.heap.size + 1))] 99)
  have hr3 := heap_alloc_new w2 (.cells #[.map (some (w.heap.size + 1))] 99)
  rw [hs2] at hr3
  have h3 := h2.below hb3
  have hm1c := hm1b.below hb3
  have hm2c := hm2.below hb3
  generalize w2.alloc (.cells #[.map (some (w.heap.size + 1))] 99) = w3 at *
  have ho4 : Only w3 (w3.setCell ⟨gm, 5, none⟩ (.map (some w.heap.size))) (fun k => k = gm) := Only.setCell w3 ⟨gm, 5, none⟩ _
  have hb4 := heap_setCell_same w3 gm 5 _ _ (.map (some w.heap.size)) h3.box
  have ho5 : Only (w3.setCell ⟨gm, 5, none⟩ (.map (some w.heap.size))) ((w3.setCell ⟨gm, 5, none⟩ (.map (some w.heap.size))).setCell ⟨gm, 6, none⟩ (.slice (some ⟨w.heap.size + 1 + 1, 0, none⟩) 1 1)) (fun k => k = gm) := Only.setCell _ ⟨gm, 6, none⟩ _
  have hb5 := heap_setCell_same _ gm 6 _ _ (.slice (some ⟨w.heap.size + 1 + 1, 0, none⟩) 1 1) hb4
  have ho := ho4.trans ho5 fun _ _ h => h
  clear ho4 ho5 hb4
  generalize (w3.setCell ⟨gm, 5, none⟩ (.map (some w.heap.size))).setCell ⟨gm, 6, none⟩ (.slice (some ⟨w.heap.size + 1 + 1, 0, none⟩) 1 1) = w5 at *
  have hrow : w5.heap[w.heap.size + 1 + 1]? = some (.cells #[.map (some (w.heap.size + 1))] 99 (0, 0)) := (ho.block _ (Array.getElem?_eq_some_iff.1 hr3).1 (by omega)).trans hr3
  have hobj := h3.funcs.obj
  have hcell : ∀ {k : Nat} {cs : Array Value} {t' : TypeId} {fr : Nat × Nat}, w3.heap[k]? = some (.cells cs t' fr) → k ≠ bf := fun h1 e => by obtain ⟨es, t, hobj⟩ := hobj; rw [e, hobj] at h1; cases h1
  have hbfN : bf < w.heap.size := by obtain ⟨es, t, h9⟩ := h.funcs.obj; exact (Array.getElem?_eq_some_iff.1 h9).1
  have hcv := own_only h3.calls ho (fun k hk e => by have e : k = gm := e; subst e; exact own_ne h3.calls h3.box (by decide) hk)
  have hfun : FunM w5 L bf c fs.funcs := h3.funcs.only ho (fun e => hcell h3.box (show bf = gm from e).symm)
  have hkeep : KeepOk Keep w5 := fun k hk => by
    have hne : ¬ k = gm := fun e => h.low.2.2.1 (e ▸ hk)
    rcases h3.keep k hk with ⟨es, t, h1⟩ | ⟨cs, fr, h1⟩
    · exact .inl ⟨es, t, (ho.block k (Array.getElem?_eq_some_iff.1 h1).1 hne).trans h1⟩
    · exact .inr ⟨cs, fr, (ho.block k (Array.getElem?_eq_some_iff.1 h1).1 hne).trans h1⟩
  have hinv := h3.inv.turn ho (fun k _ e => .inr ⟨by rw [show k = gm from e]; exact h.low.1, by rw [show k = gm from e]; exact h.low.2.2.1⟩)
  have hklt := fun k (hk : k ∈ Keep) => h.keep.lt hk
  have hcvlt := fun k (hk : cv.ownBlock = some k) => h.calls.lt k hk
  refine ⟨h3.mem.only ho (fun k hk e => by have e : k = gm := e; have := h.low.1; omega), hb5, ⟨_, (hm1c.only ho (fun e => by have e : w.heap.size = gm := e; omega)).mono (Nat.zero_le _), fun x => rfl⟩,
    ⟨rfl, .inr ⟨w.heap.size + 1 + 1, 1, _, rfl, by omega, hrow, Nat.le_refl _, by unfold maxLen; omega, rfl, rfl⟩⟩,
    .cons ⟨_, (hm2c.only ho (fun e => by have e : w.heap.size + 1 = gm := e; omega)).mono (Nat.zero_le _), fun x => rfl⟩ (fun x k e => by cases e) .nil, hcv, h.callsL, by simp, ⟨h.low.1, fun b hb => ?_⟩, Nat.succ_pos _, ⟨Nat.le_succ_of_le h.few, Nat.succ_le_succ (Nat.zero_le _)⟩, h.short, fun w6 h6 => ⟨hinv.turn h6 fun k hk e => ?_, hfun.only h6 fun e => ?_, fun k hk => ?_⟩⟩
  · rcases List.mem_cons.1 hb with e | hb
    · omega
    · have := List.mem_singleton.1 hb; omega
  · rcases e with e | e | e | e | e | e
    · exact .inr ⟨by rw [e]; exact h.low.1, by rw [e]; exact h.low.2.2.1⟩
    · exact .inl ⟨h.mem.lb e, e⟩
    · exact .inr ⟨by omega, fun hk => by have := hklt k hk; omega⟩
    · have := List.mem_singleton.1 e
      exact .inr ⟨by omega, fun hk => by have := hklt k hk; omega⟩
    · exact .inr ⟨(hcvlt k e).1, h.keep.rowNe h.calls (by decide) e⟩
    · have e : w.heap.size + 1 + 1 = k := Option.some.inj e
      exact .inr ⟨by omega, fun hk => by have := hklt k hk; omega⟩
  · rcases e with e | e | e | e | e | e
    · exact hcell h3.box e.symm
    · have := h.mem.lb e; have := h.low.2.1; omega
    · omega
    · have := List.mem_singleton.1 e; omega
    · obtain ⟨cur, hc⟩ := own_block h3.calls e
      exact hcell hc rfl
    · have e : w.heap.size + 1 + 1 = bf := Option.some.inj e
      omega
  · have hne : ¬ OwnS gm L w.heap.size [w.heap.size + 1] cv (.slice (some ⟨w.heap.size + 1 + 1, 0, none⟩) 1 1) k := fun e => by
      have hkl := hklt k hk
      rcases e with e | e | e | e | e | e
      · exact h.low.2.2.1 (e ▸ hk)
      · obtain ⟨a, ha, rfl⟩ := e
        obtain ⟨kv, h9⟩ := h.mem.row ha
        rcases h.keep _ hk with ⟨es, t, h1⟩ | ⟨cs, fr, h1⟩
        · rw [h9] at h1; cases h1
        · rw [h9] at h1; cases h1
      · omega
      · have := List.mem_singleton.1 e; omega
      · exact h.keep.rowNe h.calls (by decide) e hk
      · have e : w.heap.size + 1 + 1 = k := Option.some.inj e
        omega
    rcases hkeep k hk with ⟨es, t, h1⟩ | ⟨cs, fr, h1⟩
    · exact .inl ⟨es, t, (h6.block k (Array.getElem?_eq_some_iff.1 h1).1 hne).trans h1⟩
    · exact .inr ⟨cs, fr, (h6.block k (Array.getElem?_eq_some_iff.1 h1).1 hne).trans h1⟩
/-- the function is done -/
theorem VisM.outside {st : Nm.St Nat} {c2 mu : Nat} {ms : List Nat} {fsf : Bs × Bs → Option Nat} {X : World → Prop} (h : VisM (fun w' => (Rob (Far N0 L Keep) J w' ∧ FunM w' L bf c fsf ∧ KeepOk Keep w') ∧ X w') gm N0 L I ga n (.map (some bf)) mm w st c2 mu ms cv sv) (hl : N0 ≤ gm ∧ N0 ≤ bf ∧ gm ∉ Keep ∧ bf ∉ Keep) (hc : c ≤ c2) :
    FsM J Keep gm N0 L I ga n bf mm w ⟨fsf, st.calls, st.ref⟩ c2 cv (.map (some mu)) sv := by
  obtain ⟨⟨h1, h2, h3⟩, -⟩ := h.holds
  exact ⟨h.mem, h.box, h2.mono hc, h.calls, h.callsL, hl, h.few.1, h.short, h1, h3⟩
end
end Go.Proofs.YtljdphpbalioaaaGreatDoor
