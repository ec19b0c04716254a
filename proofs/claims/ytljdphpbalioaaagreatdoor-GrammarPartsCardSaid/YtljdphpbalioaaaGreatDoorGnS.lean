/- What the namer knows inside a function, in memory. No walk. -/
import Derived.Test.YtljdphpbalioaaaGreatDoorGnN
namespace Go.Proofs.YtljdphpbalioaaaGreatDoor
open Go.RowKit

def encS (x : Bs) : Value := .string (mk8 x)
theorem encS_inj (a b : Bs) (h : encS a = encS b) : a = b := by
  unfold encS at h
  injection h with h
  exact mk8_inj h
def MapS (w : World) (b c : Nat) (s : Bs → Option Nat) : Prop := ∃ f, MapV Tryz.prog 9 encS w b c f ∧ ∀ x, f x = (s x).map ptrG
/-- the scopes' maps, innermost first -/
inductive Sc (w : World) (L : List (LT Nat)) (c : Nat) : List Nat → List (Bs → Option Nat) → Prop
  | nil : Sc w L c [] []
  | cons {b : Nat} {ms : List Nat} {s : Bs → Option Nat} {sc : List (Bs → Option Nat)} (h1 : MapS w b c s) (h2 : ∀ x k, s x = some k → Lb L k) (h3 : Sc w L c ms sc) : Sc w L c (b :: ms) (s :: sc)
theorem MapS.only {w w' : World} {b c : Nat} {s : Bs → Option Nat} {S : Nat → Prop} (h : MapS w b c s) (ho : Only w w' S) (hs : ¬ S b) : MapS w' b c s := by
  obtain ⟨f, h1, h2⟩ := h
  exact ⟨f, h1.only ho hs, h2⟩
theorem MapS.mono {w : World} {b c c' : Nat} {s : Bs → Option Nat} (h : MapS w b c s) (hc : c ≤ c') : MapS w b c' s := by
  obtain ⟨f, h1, h2⟩ := h
  exact ⟨f, h1.mono hc, h2⟩
theorem Sc.only {w w' : World} {L : List (LT Nat)} {c : Nat} {ms : List Nat} {sc : List (Bs → Option Nat)} {S : Nat → Prop} (h : Sc w L c ms sc) (ho : Only w w' S) (hs : ∀ b ∈ ms, ¬ S b) : Sc w' L c ms sc := by
  induction h with
  | nil => exact .nil
  | cons h1 h2 _ ih => exact .cons (h1.only ho (hs _ (List.mem_cons_self ..))) h2 (ih fun b hb => hs b (List.mem_cons_of_mem _ hb))
theorem Sc.mono {w : World} {L : List (LT Nat)} {c c' : Nat} {ms : List Nat} {sc : List (Bs → Option Nat)} (h : Sc w L c ms sc) (hc : c ≤ c') : Sc w L c' ms sc := by
  induction h with
  | nil => exact .nil
  | cons h1 h2 _ ih => exact .cons (h1.mono hc) h2 ih
theorem Sc.len {w : World} {L : List (LT Nat)} {c : Nat} {ms : List Nat} {sc : List (Bs → Option Nat)} (h : Sc w L c ms sc) : ms.length = sc.length := by
  induction h with
  | nil => rfl
  | cons _ _ _ ih => rw [List.length_cons, List.length_cons, ih]
theorem Sc.obj {w : World} {L : List (LT Nat)} {c : Nat} {ms : List Nat} {sc : List (Bs → Option Nat)} (h : Sc w L c ms sc) : ∀ b ∈ ms, ∃ es t, w.heap[b]? = some (.map es t) := by
  induction h with
  | nil => exact fun b hb => nomatch hb
  | cons h1 _ _ ih =>
    intro b hb
    rcases List.mem_cons.1 hb with rfl | hb
    · obtain ⟨f, h4, -⟩ := h1
      exact h4.obj
    · exact ih b hb
def mapsRow (ms : List Nat) : List Value := (ms.map fun b => Value.map (some b)).reverse
/-- the blocks that are the namer's own -/
def OwnS (gm : Nat) (L : List (LT Nat)) (mu : Nat) (ms : List Nat) (cv sv : Value) (k : Nat) : Prop := k = gm ∨ Lb L k ∨ k = mu ∨ k ∈ ms ∨ cv.ownBlock = some k ∨ sv.ownBlock = some k
structure VisM (J : World → Prop) (gm N0 : Nat) (L : List (LT Nat)) (I : Nat → Nat) (ga : Value) (n : Nat) (mf mm : Value) (w : World) (st : Nm.St Nat) (c mu : Nat) (ms : List Nat) (cv sv : Value) : Prop where
  mem : MemT w N0 L I st.ref (fun _ => .slice none 0 0)
  box : BoxM w gm ga n mf mm cv (.map (some mu)) sv
  used : ∃ f, MapV Tryz.prog 9 encS w mu c f ∧ ∀ x, f x = if st.used x = true then some (.bool true) else none
  row : w.ownsRow N0 99 1 sv ms.length (mapsRow ms)
  maps : Sc w L c ms st.scope
  calls : OwnPtrs N0 w cv (st.calls.map fun c => ptrG c.2.2)
  callsL : ∀ c ∈ st.calls, ∃ a ∈ L, a.lab = c.2.2 ∧ a.mod = c.1 ∧ a.tgt = c.2.1
  apart : (mu :: ms).Nodup
  low : N0 ≤ gm ∧ ∀ b ∈ mu :: ms, N0 ≤ b
  pos : 0 < st.scope.length
  few : st.calls.length ≤ c ∧ ms.length ≤ c
  short : ∀ a ∈ L, a.name.length ≤ 1000000 ∧ a.tgt.length ≤ 1000000 ∧ a.mod.length ≤ 1000000
  inv : ∀ w', Only w w' (OwnS gm L mu ms cv sv) → J w'

section
variable {J : World → Prop} {gm N0 : Nat} {L : List (LT Nat)} {I : Nat → Nat} {ga : Value} {n : Nat} {mf mm : Value} {w w' : World} {st : Nm.St Nat} {c mu : Nat} {ms : List Nat} {cv sv : Value}
theorem VisM.inv' {S : Nat → Prop} {mu' : Nat} {ms' : List Nat} {cv' sv' : Value} (h : VisM J gm N0 L I ga n mf mm w st c mu ms cv sv) (ho : Only w w' S) (hS : ∀ k, k < w.heap.size → S k → OwnS gm L mu ms cv sv k) (hO : ∀ k, k < w.heap.size → OwnS gm L mu' ms' cv' sv' k → OwnS gm L mu ms cv sv k) :
    ∀ w2, Only w' w2 (OwnS gm L mu' ms' cv' sv') → J w2 := fun w2 h2 => h.inv w2 ((ho.mono hS).trans h2 hO)
theorem VisM.holds (h : VisM J gm N0 L I ga n mf mm w st c mu ms cv sv) : J w := h.inv w (Only.refl _ _)
theorem VisM.muObj (h : VisM J gm N0 L I ga n mf mm w st c mu ms cv sv) : ∃ es t, w.heap[mu]? = some (.map es t) := by
  obtain ⟨f, h1, -⟩ := h.used
  exact h1.obj
/-- a map's block is no cells' block -/
theorem VisM.mapNe (h : VisM J gm N0 L I ga n mf mm w st c mu ms cv sv) {b g : Nat} (hb : b ∈ mu :: ms) {cs : Array Value} {t : TypeId} {fr : Nat × Nat} (hg : w.heap[g]? = some (.cells cs t fr)) : b ≠ g := fun e => by
  subst e
  rcases List.mem_cons.1 hb with e | hb
  · subst e
    obtain ⟨es, t', h1⟩ := h.muObj
    rw [h1] at hg
    cases hg
  · obtain ⟨es, t', h1⟩ := h.maps.obj _ hb
    rw [h1] at hg
    cases hg
theorem VisM.rowNe (h : VisM J gm N0 L I ga n mf mm w st c mu ms cv sv) {b k : Nat} (hb : b ∈ mu :: ms) : (cv.ownBlock = some k ∨ sv.ownBlock = some k) → b ≠ k := fun hk => by
  rcases hk with hk | hk
  · obtain ⟨cur, hc⟩ := own_block h.calls hk
    exact h.mapNe hb hc
  · obtain ⟨cur, hc⟩ := own_block h.row hk
    exact h.mapNe hb hc
theorem VisM.below (h : VisM J gm N0 L I ga n mf mm w st c mu ms cv sv) (hb : Below w.heap.size w w') : VisM J gm N0 L I ga n mf mm w' st c mu ms cv sv := by
  have ho : Only w w' (fun _ => False) := Only.of_below hb _
  obtain ⟨f, hf, hu⟩ := h.used
  exact ⟨h.mem.below hb, h.box.only ho (fun h => h), ⟨f, hf.only ho (fun h => h), hu⟩, own_only h.row ho fun _ _ h => h, h.maps.only ho fun _ _ h => h, own_only h.calls ho fun _ _ h => h, h.callsL, h.apart, h.low, h.pos, h.few, h.short, h.inv' ho (fun _ _ h => h.elim) fun _ _ h => h⟩
theorem VisM.mono (h : VisM J gm N0 L I ga n mf mm w st c mu ms cv sv) {c' : Nat} (hc : c ≤ c') : VisM J gm N0 L I ga n mf mm w st c' mu ms cv sv := by
  obtain ⟨f, hf, hu⟩ := h.used
  exact ⟨h.mem, h.box, ⟨f, hf.mono hc, hu⟩, h.row, h.maps.mono hc, h.calls, h.callsL, h.apart, h.low, h.pos, ⟨Nat.le_trans h.few.1 hc, Nat.le_trans h.few.2 hc⟩, h.short, h.inv⟩
theorem VisM.lbLow (h : VisM J gm N0 L I ga n mf mm w st c mu ms cv sv) {a : LT Nat} (ha : a ∈ L) : a.lab < N0 ∧ a.lab ≠ gm ∧ ∀ b ∈ mu :: ms, b ≠ a.lab := by
  have h1 := (h.mem a ha).lt
  have h2 := h.low
  exact ⟨h1, by omega, fun b hb e => by have := h2.2 b hb; omega⟩
/-- what a node names is stored -/
theorem VisM.refs (h : VisM J gm N0 L I ga n mf mm w st c mu ms cv sv) {a : LT Nat} (ha : a ∈ L) (x : Nat) : VisM J gm N0 L I ga n mf mm (w.setCell ⟨a.lab, 4, none⟩ (.int .u64 x)) ⟨st.used, st.scope, st.calls, updF st.ref a.lab x⟩ c mu ms cv sv := by
  have ho : Only w (w.setCell ⟨a.lab, 4, none⟩ (.int .u64 x)) (fun k => k = a.lab) := Only.setCell w ⟨a.lab, 4, none⟩ _
  obtain ⟨f, hf, hu⟩ := h.used
  have hl := h.lbLow ha
  obtain ⟨kv, hrow⟩ := h.mem.row ha
  exact ⟨h.mem.ref ha x, h.box.only ho (fun e => hl.2.1 e.symm), ⟨f, hf.only ho (fun e => hl.2.2 mu (List.mem_cons_self ..) e), hu⟩, own_only h.row ho (fun k hk e => by have e : k = a.lab := e; subst e; exact own_ne h.row hrow (by decide) hk), h.maps.only ho (fun b hb e => hl.2.2 b (List.mem_cons_of_mem _ hb) e),
    own_only h.calls ho (fun k hk e => by have e : k = a.lab := e; have := (h.calls.lt k hk).1; omega), h.callsL, h.apart, h.low, h.pos, h.few, h.short, h.inv' ho (fun k _ e => .inr (.inl ⟨a, ha, (show k = a.lab from e).symm⟩)) fun _ _ h => h⟩
/-- a name is used -/
theorem VisM.use (h : VisM J gm N0 L I ga n mf mm w st c mu ms cv sv) (x : Bs) {N : Nat} {f : Bs → Option Value} (hf : MapV Tryz.prog 9 encS w' mu N (putV f x (.bool true))) (hN : N ≤ c + 1) (hu : ∀ x, f x = if st.used x = true then some (.bool true) else none) (ho : Only w w' (fun q => q = mu)) :
    VisM J gm N0 L I ga n mf mm w' ⟨fun y => decide (y = x) || st.used y, st.scope, st.calls, st.ref⟩ (c + 1) mu ms cv sv := by
  have hap := (List.nodup_cons.1 h.apart).1
  refine ⟨h.mem.only ho (fun k hk e => by have e : k = mu := e; have := h.low.2 mu (List.mem_cons_self ..); omega), h.box.only ho (fun e => h.mapNe (List.mem_cons_self ..) h.box (show gm = mu from e).symm), ⟨_, hf.mono hN, fun y => ?_⟩, own_only h.row ho (fun k hk e => h.rowNe (List.mem_cons_self ..) (.inr hk) (show k = mu from e).symm), (h.maps.only ho fun b hb e => hap (by rw [← show b = mu from e]; exact hb)).mono (Nat.le_succ _),
    own_only h.calls ho (fun k hk e => h.rowNe (List.mem_cons_self ..) (.inl hk) (show k = mu from e).symm), h.callsL, h.apart, h.low, h.pos, ⟨Nat.le_succ_of_le h.few.1, Nat.le_succ_of_le h.few.2⟩, h.short, h.inv' ho (fun k _ e => .inr (.inr (.inl e))) fun _ _ h => h⟩
  unfold putV
  by_cases hy : y = x
  · simp [hy]
  · rw [if_neg hy, hu y]
    simp [hy]
/-- a name is in sight -/
theorem VisM.bind {b k : Nat} {s : Bs → Option Nat} {sc : List (Bs → Option Nat)} {ms' : List Nat} {used : Bs → Bool} {calls : List (Bs × Bs × Nat)} {ref : Nat → Nat} (h : VisM J gm N0 L I ga n mf mm w ⟨used, s :: sc, calls, ref⟩ c mu (b :: ms') cv sv) (x : Bs) (hk : Lb L k) {N : Nat} {f : Bs → Option Value} (hf : MapV Tryz.prog 9 encS w' b N (putV f x (ptrG k))) (hN : N ≤ c + 1) (hu : ∀ x, f x = (s x).map ptrG) (ho : Only w w' (fun q => q = b)) :
    VisM J gm N0 L I ga n mf mm w' ⟨used, Nm.putF s x k :: sc, calls, ref⟩ (c + 1) mu (b :: ms') cv sv := by
  have hbm : b ∈ mu :: b :: ms' := List.mem_cons_of_mem _ (List.mem_cons_self ..)
  have hap := List.nodup_cons.1 h.apart
  have hap2 := (List.nodup_cons.1 hap.2).1
  obtain ⟨fu, hfu, huu⟩ := h.used
  have hm := h.maps
  cases hm with
  | cons h1 h2 h3 =>
    refine ⟨h.mem.only ho (fun k hk e => by have e : k = b := e; have := h.low.2 b hbm; omega), h.box.only ho (fun e => h.mapNe hbm h.box (show gm = b from e).symm), ⟨fu, (hfu.only ho (fun e => hap.1 (by rw [show mu = b from e]; exact List.mem_cons_self ..))).mono (Nat.le_succ _), huu⟩, own_only h.row ho (fun k hk e => h.rowNe hbm (.inr hk) (show k = b from e).symm), .cons ⟨_, hf.mono hN, fun y => ?_⟩ (fun y k2 hy => ?_) ((h3.only ho fun b2 hb2 e => hap2 (by rw [← show b2 = b from e]; exact hb2)).mono (Nat.le_succ _)),
      own_only h.calls ho (fun k hk e => h.rowNe hbm (.inl hk) (show k = b from e).symm), h.callsL, h.apart, h.low, h.pos, ⟨Nat.le_succ_of_le h.few.1, Nat.le_succ_of_le h.few.2⟩, h.short, h.inv' ho (fun k _ e => .inr (.inr (.inr (.inl (by rw [show k = b from e]; exact List.mem_cons_self ..))))) fun _ _ h => h⟩
    · unfold putV Nm.putF
      by_cases hy : y = x
      · simp [hy]
      · rw [if_neg hy, if_neg hy, hu y]
    · unfold Nm.putF at hy
      by_cases hyx : y = x
      · rw [if_pos hyx] at hy
        cases hy
        exact hk
      · rw [if_neg hyx] at hy
        exact h2 y k2 hy
end
end Go.Proofs.YtljdphpbalioaaaGreatDoor
