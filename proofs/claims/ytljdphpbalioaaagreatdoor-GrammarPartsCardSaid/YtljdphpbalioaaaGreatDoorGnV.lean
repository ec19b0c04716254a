/- What the namer knows: calls, scopes. No walk. -/
import Derived.Test.YtljdphpbalioaaaGreatDoorGnD
import Derived.WalkSmall
namespace Go.Proofs.YtljdphpbalioaaaGreatDoor
open Go.RowKit

theorem rowMaps : RowTy Tryz.prog 54 99 1 8 := RowTy.mk' (z := .map none) Tryz.underlying54 (by kernel_rfl) rfl (by omega)
theorem mapsRow_cons (b : Nat) (ms : List Nat) : mapsRow (b :: ms) = mapsRow ms ++ [.map (some b)] := by
  unfold mapsRow
  rw [List.map_cons, List.reverse_cons]
section
variable {J : World → Prop} {gm N0 : Nat} {L : List (LT Nat)} {I : Nat → Nat} {ga : Value} {n : Nat} {mf mm : Value} {w w' : World} {st : Nm.St Nat} {c mu : Nat} {ms : List Nat} {cv sv cv' sv' : Value}
/-- a row that is not a map's, nor a node's, nor the box: what else stands still when it grows -/
theorem VisM.callsOn (h : VisM J gm N0 L I ga n mf mm w st c mu ms cv sv) {a : LT Nat} (ha : a ∈ L) (hg : w.grownBy w' cv.ownBlock) (hst : Stays w cv cv') (hp : OwnPtrs N0 w' cv' ((st.calls.map fun c => ptrG c.2.2) ++ [ptrG a.lab])) :
    VisM J gm N0 L I ga n mf mm (w'.setCell ⟨gm, 4, none⟩ cv') ⟨st.used, st.scope, st.calls ++ [(a.mod, a.tgt, a.lab)], st.ref⟩ (c + 1) mu ms cv' sv := by
  have ho1 : Only w w' (fun k => cv.ownBlock = some k) := Only.of_grown hg
  have ho2 : Only w' (w'.setCell ⟨gm, 4, none⟩ cv') (fun k => k = gm) := Only.setCell w' ⟨gm, 4, none⟩ _
  obtain ⟨f, hf, hu⟩ := h.used
  have hbox := h.box.only ho1 (fun e => own_ne h.calls h.box (by decide) e)
  have hmapN : ∀ b ∈ mu :: ms, ¬ cv.ownBlock = some b := fun b hb e => h.rowNe hb (.inl e) rfl
  have hgmN : ∀ b ∈ mu :: ms, ¬ b = gm := fun b hb => h.mapNe hb h.box
  have hrow1 := own_only h.row ho1 (fun k hk e => by
    obtain ⟨c1, h1⟩ := own_block h.row hk
    exact own_ne h.calls h1 (by decide) e)
  have hmem1 := h.mem.only ho1 (fun k hk e => by have := (h.calls.lt k e).1; omega)
  refine ⟨hmem1.only ho2 (fun k hk e => by have := h.low.1; have e : k = gm := e; omega), ?_, ⟨f, ((hf.only ho1 (hmapN mu (List.mem_cons_self ..))).only ho2 (hgmN mu (List.mem_cons_self ..))).mono (Nat.le_succ _), hu⟩, own_only hrow1 ho2 (fun k hk e => ?_), ((h.maps.only ho1 fun b hb => hmapN b (List.mem_cons_of_mem _ hb)).only ho2 fun b hb => hgmN b (List.mem_cons_of_mem _ hb)).mono (Nat.le_succ _),
    own_only (by rw [List.map_append]; exact hp) ho2 (fun k hk e => ?_), fun x hx => ?_, h.apart, h.low, h.pos, ⟨by rw [List.length_append]; exact Nat.succ_le_succ h.few.1, Nat.le_succ_of_le h.few.2⟩, h.short, ?_⟩
  · exact heap_setCell_same w' gm 4 _ _ cv' hbox
  · have e : k = gm := e
    subst e
    exact own_ne hrow1 hbox (by decide) hk
  · have e : k = gm := e
    subst e
    exact own_ne hp hbox (by decide) hk
  · rcases List.mem_append.1 hx with hx | hx
    · exact h.callsL x hx
    · have e := List.mem_singleton.1 hx
      subst e
      exact ⟨a, ha, rfl, rfl, rfl⟩
  · have hlt := (Array.getElem?_eq_some_iff.1 h.box).1
    refine h.inv' (S := OwnS gm L mu ms cv sv) ((ho1.mono fun k _ e => .inr (.inr (.inr (.inr (.inl e))))).trans ho2 fun k _ e => .inl e) (fun _ _ h => h) fun k hk e => ?_
    rcases e with e | e | e | e | e | e
    · exact .inl e
    · exact .inr (.inl e)
    · exact .inr (.inr (.inl e))
    · exact .inr (.inr (.inr (.inl e)))
    · rcases hst with hs | hs
      · exact .inr (.inr (.inr (.inr (.inl (by rw [← hs]; exact e)))))
      · have := hs k e; omega
    · exact .inr (.inr (.inr (.inr (.inr e))))
/-- a scope more -/
theorem VisM.pushed (h : VisM J gm N0 L I ga n mf mm w st c mu ms cv sv) {t : TypeId} (hg : ((w.alloc (.map #[] 0)).alloc (.cells #[.map (some w.heap.size)] t)).grownBy w' sv.ownBlock) (hst : Stays ((w.alloc (.map #[] 0)).alloc (.cells #[.map (some w.heap.size)] t)) sv sv')
    (hp : w'.ownsRow N0 99 1 sv' (ms.length + 1) (mapsRow ms ++ [.map (some w.heap.size)])) :
    VisM J gm N0 L I ga n mf mm (w'.setCell ⟨gm, 6, none⟩ sv') ⟨st.used, (fun _ => none) :: st.scope, st.calls, st.ref⟩ (c + 1) mu (w.heap.size :: ms) cv sv' := by
  have hb1 := bal (bre w) (.map #[] 0)
  have hnew := MapV.new (enc := encS) Tryz.prog 9 w
  have hs1 : (w.alloc (.map #[] 0)).heap.size = w.heap.size + 1 := by simp
  have h1 := h.below hb1
  generalize w.alloc (.map #[] 0) = wa at *
  have hb2 := bal (bre wa) (.cells #[.map (some w.heap.size)] t)
  have h2 := h1.below hb2
  have hnew2 := hnew.below hb2
  have hs2 : wa.heap.size ≤ (wa.alloc (.cells #[.map (some w.heap.size)] t)).heap.size := hb2.size
  generalize wa.alloc (.cells #[.map (some w.heap.size)] t) = wb at *
  have hold : ∀ b ∈ mu :: ms, b < w.heap.size := fun b hb => by
    rcases List.mem_cons.1 hb with e | hb
    · subst e
      obtain ⟨es, t', h1⟩ := h.muObj
      exact (Array.getElem?_eq_some_iff.1 h1).1
    · obtain ⟨es, t', h1⟩ := h.maps.obj _ hb
      exact (Array.getElem?_eq_some_iff.1 h1).1
  have hbk : w.heap.size < wb.heap.size := by omega
  have hN0 : N0 ≤ w.heap.size := by have := h.low.1; have := (Array.getElem?_eq_some_iff.1 h.box).1; omega
  have ho1 : Only wb w' (fun k => sv.ownBlock = some k) := Only.of_grown hg
  have ho2 : Only w' (w'.setCell ⟨gm, 6, none⟩ sv') (fun k => k = gm) := Only.setCell w' ⟨gm, 6, none⟩ _
  obtain ⟨f, hf, hu⟩ := h2.used
  have hbox := h2.box.only ho1 (fun e => own_ne h2.row h2.box (by decide) e)
  have hmapN : ∀ b ∈ mu :: ms, ¬ sv.ownBlock = some b := fun b hb e => h2.rowNe hb (.inr e) rfl
  have hgmN : ∀ b ∈ mu :: ms, ¬ b = gm := fun b hb => h2.mapNe hb h2.box
  have hsvlt : ∀ k, sv.ownBlock = some k → k < w.heap.size := fun k hk => (h.row.lt k hk).2
  have hcalls1 := own_only h2.calls ho1 (fun k hk e => by
    obtain ⟨c1, h1⟩ := own_block h2.calls hk
    exact own_ne h2.row h1 (by decide) e)
  have hmem1 := h2.mem.only ho1 (fun k hk e => by have := (h.row.lt k e).1; omega)
  have hgmlt := (Array.getElem?_eq_some_iff.1 h.box).1
  refine ⟨hmem1.only ho2 (fun k hk e => by have := h.low.1; have e : k = gm := e; omega), ?_, ⟨f, ((hf.only ho1 (hmapN mu (List.mem_cons_self ..))).only ho2 (hgmN mu (List.mem_cons_self ..))).mono (Nat.le_succ _), hu⟩, own_only (by rw [mapsRow_cons]; exact hp) ho2 (fun k hk e => ?_),
    .cons ⟨_, ((hnew2.only ho1 (fun e => by have := hsvlt _ e; omega)).only ho2 (fun e => by have e : w.heap.size = gm := e; omega)).mono (Nat.zero_le _), fun x => rfl⟩ (fun x k e => by cases e) (((h2.maps.only ho1 fun b hb => hmapN b (List.mem_cons_of_mem _ hb)).only ho2 fun b hb => hgmN b (List.mem_cons_of_mem _ hb)).mono (Nat.le_succ _)),
    own_only hcalls1 ho2 (fun k hk e => ?_), h.callsL, ?_, ⟨h.low.1, fun b hb => ?_⟩, Nat.succ_pos _, ⟨Nat.le_succ_of_le h.few.1, Nat.succ_le_succ h.few.2⟩, h.short, ?_⟩
  · exact heap_setCell_same w' gm 6 _ _ sv' hbox
  · have e : k = gm := e
    subst e
    exact own_ne hp hbox (by decide) hk
  · have e : k = gm := e
    subst e
    exact own_ne hcalls1 hbox (by decide) hk
  · have hap := List.nodup_cons.1 h.apart
    refine List.nodup_cons.2 ⟨fun e => ?_, List.nodup_cons.2 ⟨fun e => ?_, hap.2⟩⟩
    · rcases List.mem_cons.1 e with e | e
      · have := hold mu (List.mem_cons_self ..); omega
      · exact hap.1 e
    · have := hold _ (List.mem_cons_of_mem _ e); omega
  · rcases List.mem_cons.1 hb with e | hb
    · exact h.low.2 b (by rw [e]; exact List.mem_cons_self ..)
    · rcases List.mem_cons.1 hb with e | hb
      · omega
      · exact h.low.2 b (List.mem_cons_of_mem _ hb)
  · refine h.inv' (S := OwnS gm L mu ms cv sv) ((((Only.of_below hb1 _).trans (Only.of_below hb2 _) fun _ _ h => h).trans ho1 fun k _ e => .inr (.inr (.inr (.inr (.inr e))))).trans ho2 fun k _ e => .inl e) (fun _ _ h => h) fun k hk e => ?_
    rcases e with e | e | e | e | e | e
    · exact .inl e
    · exact .inr (.inl e)
    · exact .inr (.inr (.inl e))
    · rcases List.mem_cons.1 e with e | e
      · omega
      · exact .inr (.inr (.inr (.inl e)))
    · exact .inr (.inr (.inr (.inr (.inl e))))
    · rcases hst with hs | hs
      · exact .inr (.inr (.inr (.inr (.inr (by rw [← hs]; exact e)))))
      · have := hs k e; omega
/-- a scope less -/
theorem VisM.popped {b q M cap : Nat} {s : Bs → Option Nat} {sc : List (Bs → Option Nat)} {used : Bs → Bool} {calls : List (Bs × Bs × Nat)} {ref : Nat → Nat} (h : VisM J gm N0 L I ga n mf mm w ⟨used, s :: sc, calls, ref⟩ c mu (b :: ms) cv (.slice (some ⟨q, 0, none⟩) (M + 1) cap)) (hM : M = ms.length) (hp : 0 < sc.length) :
    VisM J gm N0 L I ga n mf mm (w.setCell ⟨gm, 6, none⟩ (.slice (some ⟨q, 0, none⟩) M cap)) ⟨used, sc, calls, ref⟩ c mu ms cv (.slice (some ⟨q, 0, none⟩) M cap) := by
  subst hM
  have ho2 : Only w (w.setCell ⟨gm, 6, none⟩ (.slice (some ⟨q, 0, none⟩) ms.length cap)) (fun k => k = gm) := Only.setCell w ⟨gm, 6, none⟩ _
  obtain ⟨f, hf, hu⟩ := h.used
  have hgmN : ∀ x ∈ mu :: b :: ms, ¬ x = gm := fun x hx => h.mapNe hx h.box
  have hrow : w.ownsRow N0 99 1 (.slice (some ⟨q, 0, none⟩) ms.length cap) ms.length (mapsRow ms) := by
    have h1 := h.row
    rw [mapsRow_cons] at h1
    exact ownsRow_pop (by unfold mapsRow; simp) h1
  have hap := List.nodup_cons.1 h.apart
  have hm := h.maps
  cases hm with
  | cons h1 h2 h3 =>
    refine ⟨h.mem.only ho2 (fun k hk e => by have := h.low.1; have e : k = gm := e; omega), heap_setCell_same w gm 6 _ _ _ h.box, ⟨f, hf.only ho2 (hgmN mu (List.mem_cons_self ..)), hu⟩, own_only hrow ho2 (fun k hk e => ?_), h3.only ho2 fun x hx => hgmN x (List.mem_cons_of_mem _ (List.mem_cons_of_mem _ hx)), own_only h.calls ho2 (fun k hk e => ?_), h.callsL, ?_, ⟨h.low.1, fun x hx => h.low.2 x ?_⟩, hp, ⟨h.few.1, Nat.le_of_succ_le h.few.2⟩, h.short, ?_⟩
    · have e : k = gm := e
      subst e
      exact own_ne hrow h.box (by decide) hk
    · have e : k = gm := e
      subst e
      exact own_ne h.calls h.box (by decide) hk
    · exact List.nodup_cons.2 ⟨fun e => hap.1 (List.mem_cons_of_mem _ e), (List.nodup_cons.1 hap.2).2⟩
    · rcases List.mem_cons.1 hx with e | hx
      · rw [e]; exact List.mem_cons_self ..
      · exact List.mem_cons_of_mem _ (List.mem_cons_of_mem _ hx)
    · refine h.inv' ho2 (fun k _ e => .inl e) fun k _ e => ?_
      rcases e with e | e | e | e | e | e
      · exact .inl e
      · exact .inr (.inl e)
      · exact .inr (.inr (.inl e))
      · exact .inr (.inr (.inr (.inl (List.mem_cons_of_mem _ e))))
      · exact .inr (.inr (.inr (.inr (.inl e))))
      · exact .inr (.inr (.inr (.inr (.inr e))))
end
/-! the plain visit, step by step -/
section
variable {I : Nat → Nat} {t : LT Nat} {s : Nm.St Nat}
theorem visit_err (h : (Nm.pre I t.lab t.kind t.mod t.tgt s).1 ≠ 0) : Nm.visit I t s = Nm.pre I t.lab t.kind t.mod t.tgt s := by
  cases t
  unfold Nm.visit
  exact if_neg h
theorem visit_mid (h : (Nm.pre I t.lab t.kind t.mod t.tgt s).1 = 0) (h2 : (Nm.visitL I t.kids (Nm.pre I t.lab t.kind t.mod t.tgt s).2).1 ≠ 0) : Nm.visit I t s = Nm.visitL I t.kids (Nm.pre I t.lab t.kind t.mod t.tgt s).2 := by
  cases t
  unfold Nm.visit
  exact (if_pos h).trans (if_neg h2)
theorem visit_end (h : (Nm.pre I t.lab t.kind t.mod t.tgt s).1 = 0) (h2 : (Nm.visitL I t.kids (Nm.pre I t.lab t.kind t.mod t.tgt s).2).1 = 0) : Nm.visit I t s = Nm.post t.lab t.kind t.name (Nm.visitL I t.kids (Nm.pre I t.lab t.kind t.mod t.tgt s).2).2 := by
  cases t
  unfold Nm.visit
  exact (if_pos h).trans (if_pos h2)
theorem declare_len {x : Bs} {a : Nat} (s : Nm.St Nat) : (Nm.declare x a s).2.scope.length = s.scope.length := by
  unfold Nm.declare
  split
  · rfl
  · obtain ⟨u, sc, c, r⟩ := s
    cases sc <;> rfl
theorem pre_len {a k : Nat} {m g : Bs} {s : Nm.St Nat} : (Nm.pre I a k m g s).2.scope.length = if k = 5 then s.scope.length + 1 else s.scope.length := by
  unfold Nm.pre
  split
  · rename_i h
    rw [if_neg (by omega)]
    split <;> rfl
  · split
    · rename_i h
      rw [if_neg (by omega)]
    · split
      · rename_i h
        rfl
      · rename_i h
        rfl
mutual
theorem visit_len : ∀ (t : LT Nat) (s : Nm.St Nat), (Nm.visit I t s).1 = 0 → (Nm.visit I t s).2.scope.length = s.scope.length
  | .mk a k name num typ mod tgt ks, s => by
    intro h
    have e1 := pre_len (I := I) (a := a) (k := k) (m := mod) (g := tgt) (s := s)
    unfold Nm.visit at h ⊢
    simp only at h ⊢
    split at h
    · rename_i h0
      rw [if_pos h0]
      split at h
      · rename_i h1
        rw [if_pos h1]
        have e2 := visitL_len ks _ h1
        unfold Nm.post
        by_cases hk : k = 5
        · rw [if_pos hk]
          rw [if_pos hk] at e1
          rw [List.length_tail, e2, e1]
          omega
        · rw [if_neg hk]
          rw [if_neg hk] at e1
          split
          · rw [declare_len, e2, e1]
          · rw [e2, e1]
      · rename_i h1
        exact absurd h h1
    · rename_i h0
      exact absurd h h0
theorem visitL_len : ∀ (l : List (LT Nat)) (s : Nm.St Nat), (Nm.visitL I l s).1 = 0 → (Nm.visitL I l s).2.scope.length = s.scope.length
  | [], s => fun _ => rfl
  | t :: r, s => by
    intro h
    unfold Nm.visitL at h ⊢
    simp only at h ⊢
    split at h
    · rename_i h0
      rw [if_pos h0]
      rw [visitL_len r _ h, visit_len t s h0]
    · rename_i h0
      exact absurd h h0
end
end
end Go.Proofs.YtljdphpbalioaaaGreatDoor
