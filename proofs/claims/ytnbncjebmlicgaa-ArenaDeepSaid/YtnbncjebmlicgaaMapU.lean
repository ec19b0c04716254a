/- A map keyed by unsigned numbers, of whatever values: its entries as a list, keys rising. No program is in sight. -/
import Derived.Test.YtnbncjebmlicgaaApp
import Derived.Maps.OwnSet
import Derived.Maps.RangeWalk
namespace Go.Proofs.Ytnbncjebmlicgaa
open Go.RowKit Go.Maps

section
variable {α β : Type}
/-- lists of keys and what stands at them, keys rising -/
def getA (l : List (Nat × α)) (x : Nat) : Option α := (l.find? fun p => p.1 == x).map (·.2)
def insA (x : Nat × α) : List (Nat × α) → List (Nat × α)
  | [] => [x]
  | y :: r => if x.1 < y.1 then x :: y :: r else y :: insA x r
def delA (l : List (Nat × α)) (x : Nat) : List (Nat × α) := l.filter fun p => !(p.1 == x)
def putA (l : List (Nat × α)) (x : Nat) (v : α) : List (Nat × α) := insA (x, v) (delA l x)
def AscA (l : List (Nat × α)) : Prop := l.Pairwise (fun p q => p.1 < q.1) ∧ ∀ p ∈ l, p.1 < 18446744073709551616

theorem mem_insA {x p : Nat × α} : ∀ {l : List (Nat × α)}, p ∈ insA x l ↔ p = x ∨ p ∈ l
  | [] => by simp [insA]
  | y :: r => by
    unfold insA
    split
    · simp
    · simp [mem_insA (l := r)]
      constructor
      · rintro (h | h | h) <;> simp [h]
      · rintro (h | h | h) <;> simp [h]

theorem AscA.del {l : List (Nat × α)} (h : AscA l) (x : Nat) : AscA (delA l x) := ⟨h.1.filter _, fun p hp => h.2 p (List.mem_filter.1 hp).1⟩
theorem AscA.ins {l : List (Nat × α)} {x : Nat × α} (h : AscA l) (hx : ∀ p ∈ l, p.1 ≠ x.1) (h64 : x.1 < 18446744073709551616) : AscA (insA x l) := by
  refine ⟨?_, fun p hp => ?_⟩
  · have h1 := h.1
    clear h
    induction l with
    | nil => unfold insA; exact List.pairwise_singleton _ _
    | cons y r ih =>
      unfold insA
      have hy := List.pairwise_cons.1 h1
      by_cases hlt : x.1 < y.1
      · rw [if_pos hlt]
        exact List.pairwise_cons.2 ⟨fun p hp => by
          rcases List.mem_cons.1 hp with rfl | hp
          · exact hlt
          · exact Nat.lt_trans hlt (hy.1 p hp), h1⟩
      · rw [if_neg hlt]
        refine List.pairwise_cons.2 ⟨fun p hp => ?_, ih (fun p hp => hx p (List.mem_cons_of_mem _ hp)) hy.2⟩
        rcases mem_insA.1 hp with rfl | hp
        · have := hx y (List.mem_cons_self ..)
          omega
        · exact hy.1 p hp
  · rcases mem_insA.1 hp with rfl | hp
    · exact h64
    · exact h.2 p hp
theorem AscA.put {l : List (Nat × α)} (h : AscA l) (x : Nat) (v : α) (h64 : x < 18446744073709551616) : AscA (putA l x v) :=
  (h.del x).ins (fun p hp e => by have h2 := (List.mem_filter.1 hp).2; change p.1 = x at e; rw [e] at h2; simp at h2) h64
theorem AscA.nil : AscA ([] : List (Nat × α)) := ⟨List.Pairwise.nil, fun p hp => by cases hp⟩

theorem getA_mem {l : List (Nat × α)} {x : Nat} {v : α} (h : getA l x = some v) : (x, v) ∈ l := by
  unfold getA at h
  cases hf : l.find? (fun p => p.1 == x) with
  | none => rw [hf] at h; cases h
  | some p =>
    rw [hf] at h
    have h1 : p.2 = v := by simpa using h
    have h2 := List.find?_some hf
    have h3 : p.1 = x := by simpa using h2
    have := List.mem_of_find?_eq_some hf
    rw [← h1, ← h3]
    exact this
theorem getA_of_mem {l : List (Nat × α)} (h : AscA l) {p : Nat × α} (hp : p ∈ l) : getA l p.1 = some p.2 := by
  have h1 := h.1
  clear h
  induction l with
  | nil => cases hp
  | cons y r ih =>
    unfold getA
    rw [List.find?_cons]
    have hy := List.pairwise_cons.1 h1
    rcases List.mem_cons.1 hp with rfl | hp
    · simp
    · have := hy.1 p hp
      rw [show (y.1 == p.1) = false from by simp; omega]
      exact ih hp hy.2
theorem getA_none {l : List (Nat × α)} {x : Nat} : getA l x = none ↔ ∀ p ∈ l, p.1 ≠ x := by
  unfold getA
  rw [Option.map_eq_none_iff, List.find?_eq_none]
  constructor
  · intro h p hp e
    exact h p hp (by simp [e])
  · intro h p hp e
    exact h p hp (by simpa using e)
theorem getA_put_same (l : List (Nat × α)) (x : Nat) (v : α) : getA (putA l x v) x = some v := by
  unfold putA
  have hd : ∀ p ∈ delA l x, p.1 ≠ x := fun p hp e => by have h2 := (List.mem_filter.1 hp).2; rw [e] at h2; simp at h2
  generalize delA l x = m at hd
  induction m with
  | nil => simp [insA, getA]
  | cons y r ih =>
    unfold insA getA
    split
    · simp
    · rw [List.find?_cons, show (y.1 == x) = false from by simpa using hd y (List.mem_cons_self ..)]
      exact ih fun p hp => hd p (List.mem_cons_of_mem _ hp)
theorem getA_ins_other (m : List (Nat × α)) (x y : Nat) (v : α) (h : y ≠ x) : getA (insA (x, v) m) y = getA m y := by
  induction m with
  | nil => unfold insA getA; rw [List.find?_cons, show (x == y) = false from by simp; omega]
  | cons z r ih =>
    unfold insA
    split
    · unfold getA
      rw [List.find?_cons, show (x == y) = false from by simp; omega]
    · unfold getA at ih ⊢
      rw [List.find?_cons, List.find?_cons]
      cases z.1 == y with
      | true => rfl
      | false => exact ih
theorem getA_del_other (l : List (Nat × α)) (x y : Nat) (h : y ≠ x) : getA (delA l x) y = getA l y := by
  unfold getA delA
  induction l with
  | nil => rfl
  | cons z r ih =>
    rw [List.filter_cons]
    by_cases hz : z.1 = x
    · rw [if_neg (by simp [hz]), ih, List.find?_cons, show (z.1 == y) = false from by simp; omega]
    · rw [if_pos (by simpa using hz), List.find?_cons, List.find?_cons]
      cases z.1 == y with
      | true => rfl
      | false => exact ih
theorem getA_put_other (l : List (Nat × α)) (x y : Nat) (v : α) (h : y ≠ x) : getA (putA l x v) y = getA l y := by
  unfold putA
  rw [getA_ins_other _ _ _ _ h, getA_del_other _ _ _ h]
theorem getA_del_same (l : List (Nat × α)) (x : Nat) : getA (delA l x) x = none :=
  getA_none.2 fun p hp e => by have h2 := (List.mem_filter.1 hp).2; rw [e] at h2; simp at h2
theorem delA_not (l : List (Nat × α)) (x : Nat) (h : getA l x = none) : delA l x = l := by
  have h1 := getA_none.1 h
  unfold delA
  exact List.filter_eq_self.2 fun p hp => by simpa using h1 p hp
theorem length_insA (x : Nat × α) : ∀ l : List (Nat × α), (insA x l).length = l.length + 1
  | [] => rfl
  | y :: r => by
    unfold insA
    split
    · rfl
    · rw [List.length_cons, length_insA x r]; rfl
theorem length_del_some {l : List (Nat × α)} (h : AscA l) {x : Nat} {v : α} (hx : getA l x = some v) : (delA l x).length + 1 = l.length := by
  have h1 := h.1
  clear h
  induction l with
  | nil => cases hx
  | cons y r ih =>
    have hy := List.pairwise_cons.1 h1
    unfold delA
    rw [List.filter_cons]
    by_cases hz : y.1 = x
    · rw [if_neg (by simp [hz])]
      have hr : r.filter (fun p => !(p.1 == x)) = r := List.filter_eq_self.2 fun p hp => by
        have := hy.1 p hp
        simp
        omega
      rw [hr]
      rfl
    · rw [if_pos (by simpa using hz), List.length_cons, List.length_cons]
      have hx' : getA r x = some v := by
        unfold getA at hx ⊢
        rw [List.find?_cons, show (y.1 == x) = false from by simpa using hz] at hx
        exact hx
      exact congrArg (· + 1) (ih hx' hy.2)

/-- two lists with the same keys, and what stands at them in step -/
inductive StepA (R : α → β → Prop) : List (Nat × α) → List (Nat × β) → Prop
  | nil : StepA R [] []
  | cons {p : Nat × α} {q : Nat × β} {l : List (Nat × α)} {m : List (Nat × β)} (h : p.1 = q.1 ∧ R p.2 q.2) (hl : StepA R l m) : StepA R (p :: l) (q :: m)
theorem StepA.mono {R S : α → β → Prop} {l : List (Nat × α)} {m : List (Nat × β)} (h : StepA R l m) (hRS : ∀ a b, R a b → S a b) : StepA S l m := by
  induction h with
  | nil => exact .nil
  | cons h _ ih => exact .cons ⟨h.1, hRS _ _ h.2⟩ ih
theorem StepA.length {R : α → β → Prop} {l : List (Nat × α)} {m : List (Nat × β)} (h : StepA R l m) : l.length = m.length := by
  induction h with
  | nil => rfl
  | cons _ _ ih => rw [List.length_cons, List.length_cons, ih]
theorem StepA.get {R : α → β → Prop} {l : List (Nat × α)} {m : List (Nat × β)} (h : StepA R l m) (x : Nat) : (getA l x = none ∧ getA m x = none) ∨ ∃ a b, getA l x = some a ∧ getA m x = some b ∧ R a b := by
  induction h with
  | nil => exact .inl ⟨rfl, rfl⟩
  | @cons p q l m h _ ih =>
    unfold getA at ih ⊢
    rw [List.find?_cons, List.find?_cons, ← h.1]
    cases hb : p.1 == x with
    | true => exact .inr ⟨_, _, rfl, rfl, h.2⟩
    | false => exact ih
theorem StepA.del {R : α → β → Prop} {l : List (Nat × α)} {m : List (Nat × β)} (h : StepA R l m) (x : Nat) : StepA R (delA l x) (delA m x) := by
  unfold delA
  induction h with
  | nil => exact .nil
  | @cons p q l m h _ ih =>
    rw [List.filter_cons, List.filter_cons, ← h.1]
    split
    · exact .cons h ih
    · exact ih
theorem StepA.ins {R : α → β → Prop} {l : List (Nat × α)} {m : List (Nat × β)} (h : StepA R l m) (x : Nat) {a : α} {b : β} (hab : R a b) : StepA R (insA (x, a) l) (insA (x, b) m) := by
  induction h with
  | nil => exact .cons ⟨rfl, hab⟩ .nil
  | @cons p q l m h hl ih =>
    unfold insA
    rw [← h.1]
    split
    · exact .cons ⟨rfl, hab⟩ (.cons h hl)
    · exact .cons h ih
theorem StepA.put {R : α → β → Prop} {l : List (Nat × α)} {m : List (Nat × β)} (h : StepA R l m) (x : Nat) {a : α} {b : β} (hab : R a b) : StepA R (putA l x a) (putA m x b) := (h.del x).ins x hab
theorem StepA.asc {R : α → β → Prop} {l : List (Nat × α)} {m : List (Nat × β)} (h : StepA R l m) (ha : AscA l) : AscA m := by
  have hk : m.map (·.1) = l.map (·.1) := by
    clear ha
    induction h with
    | nil => rfl
    | cons h _ ih => rw [List.map_cons, List.map_cons, ih, h.1]
  have h1 : (l.map (·.1)).Pairwise (· < ·) := List.pairwise_map.2 ha.1
  rw [← hk] at h1
  refine ⟨List.pairwise_map.1 h1, fun q hq => ?_⟩
  have : q.1 ∈ l.map (·.1) := by rw [← hk]; exact List.mem_map_of_mem hq
  obtain ⟨p, hp, he⟩ := List.mem_map.1 this
  rw [← he]
  exact ha.2 p hp
end

/-! the map's datum -/
def rawE (v : Value) : Option (DataW Value × List MemPlace) := some (.held v, [])
def kU (x : Nat) : Lit := .int .u64 x
def entU (l : List (Nat × Value)) : List (Lit × DataW Value) := l.map fun p => (kU p.1, .held p.2)
def dU (l : List (Nat × Value)) : DataW Value := .map (entU l)

theorem kU_same (a b : Nat) : (kU a).sameKey (kU b) = (a == b) := by
  unfold kU Lit.sameKey
  rw [Bool.eq_iff_iff]
  simp
  omega
theorem kU_before (a b : Nat) : (kU a).before (kU b) = decide (a < b) := by
  unfold kU Lit.before
  simp
theorem insert_entU (x : Nat) (v : Value) : ∀ l : List (Nat × Value), DataW.insert (kU x, .held v) (entU l) = entU (insA (x, v) l)
  | [] => rfl
  | y :: r => by
    show DataW.insert (kU x, .held v) ((kU y.1, .held y.2) :: entU r) = _
    unfold DataW.insert insA
    rw [kU_before]
    by_cases h : x < y.1
    · rw [if_pos (by simpa using h), if_pos h]; rfl
    · rw [if_neg (by simpa using h), if_neg h, insert_entU x v r]; rfl
theorem filter_entU (l : List (Nat × Value)) (x : Nat) : (entU l).filter (fun p => !p.1.sameKey (kU x)) = entU (delA l x) := by
  unfold entU delA
  rw [List.filter_map]
  congr 1
  refine List.filter_congr fun p _ => ?_
  show (!(kU p.1).sameKey (kU x)) = _
  rw [kU_same]
theorem put_dU (l : List (Nat × Value)) (x : Nat) (v : Value) : (dU l).put (kU x) (.held v) = dU (putA l x v) := by
  show DataW.map (DataW.insert (kU x, .held v) ((entU l).filter _)) = _
  rw [filter_entU, insert_entU]
  rfl
theorem del_dU (l : List (Nat × Value)) (x : Nat) : (dU l).del (kU x) = dU (delA l x) := by
  show DataW.map ((entU l).filter _) = _
  rw [filter_entU]
  rfl
theorem find_entU (l : List (Nat × Value)) (x : Nat) : (entU l).find? (fun p => p.1.sameKey (kU x)) = (l.find? fun p => p.1 == x).map fun p => (kU p.1, .held p.2) := by
  unfold entU
  rw [List.find?_map]
  congr 2
  funext p
  exact kU_same p.1 x
theorem has_dU (l : List (Nat × Value)) (x : Nat) : Maps.has (dU l) (kU x) = (getA l x).isSome := by
  show (entU l).any (fun p => p.1.sameKey (kU x)) = _
  unfold getA
  rw [Option.isSome_map, ← List.isSome_find?, find_entU, Option.isSome_map]
theorem atKey_dU (l : List (Nat × Value)) (x : Nat) (z : Value) : (dU l).atKey (kU x) (.held z) = .held ((getA l x).getD z) := by
  unfold dU DataW.atKey getA
  simp only [find_entU]
  cases l.find? fun p => p.1 == x <;> rfl
theorem size_dU (l : List (Nat × Value)) : Maps.size (dU l) = l.length := by
  show (entU l).length = _
  unfold entU
  rw [List.length_map]

/-- block b is a map of just these entries -/
def MapU (P : Program) (k : TypeId) (w : World) (b : Nat) (l : List (Nat × Value)) : Prop := w.ownsMap P k rawE b l.length (dU l) ∧ AscA l

theorem ownsMap_exact {P : Program} {k : TypeId} {w : World} {b n : Nat} {l : List (Nat × Value)} (h : w.ownsMap P k rawE b n (dU l)) : w.ownsMap P k rawE b l.length (dU l) := by
  obtain ⟨es, clock, hb, F, -, hD⟩ := h
  refine ⟨es, clock, hb, F, ?_, hD⟩
  have h1 := congrArg Maps.size hD
  rw [size_dU] at h1
  have h2 : Maps.size (DataW.map ((es.toList.map (Go.WideElems.rg P k rawE)).foldr DataW.insert [])) = es.size := by
    show (List.foldr DataW.insert [] (es.toList.map (Go.WideElems.rg P k rawE))).length = es.size
    rw [length_sorted]
    simp
  omega

section
variable {P : Program} {k e t : TypeId} {w w' : World} {b : Nat} {l : List (Nat × Value)}
theorem MapU.lt (h : MapU P k w b l) : b < w.heap.size := h.1.lt
theorem MapU.only {S : Nat → Prop} (h : MapU P k w b l) (ho : Only w w' S) (hs : ¬ S b) : MapU P k w' b l := by
  obtain ⟨es, clock, hb, F, hn, hD⟩ := h.1
  exact ⟨⟨es, clock, (ho.block b h.lt hs).trans hb, F, hn, hD⟩, h.2⟩
theorem MapU.below (h : MapU P k w b l) (hb : Below w.heap.size w w') : MapU P k w' b l := h.only (Only.of_below hb fun _ => False) fun h => h
theorem MapU.new (w : World) : MapU P k (w.alloc (.map #[] 0)) w.heap.size [] := ⟨World.ownsMap_made w P k rawE, AscA.nil⟩

theorem keyU (hk : P.underlying k = some (.int .u64)) (x : Nat) (hx : x < 18446744073709551616) : keyOf P k (.int .u64 x) = some (kU x) := keyOf_int_mk hk (by simp [Lit.wf, IntKind.min, IntKind.max, IntKind.signed, IntKind.bits]; omega)

/-- 'v, ok := m[x]' -/
theorem MapU.look (h : MapU P k w b l) (hk : P.underlying k = some (.int .u64)) (ht : P.underlying t = some (.map k e)) {z : Value} (hz : (zeroValue e).run P w = .ok z w) (x : Nat) (hx : x < 18446744073709551616) :
    (Instr.lookup t (.map (some b)) (.int .u64 x) true).run P w = .ok (.tuple #[(getA l x).getD z, .bool (getA l x).isSome]) w := by
  obtain ⟨v, ps, hrun, hv⟩ := h.1.look_ok (int_keyed hk) ht hz (zd := .held z) (zp := []) rfl (keyU hk x hx)
  rw [atKey_dU, has_dU] at *
  cases hv
  exact hrun
/-- 'm[x]' -/
theorem MapU.look1 (h : MapU P k w b l) (hk : P.underlying k = some (.int .u64)) (ht : P.underlying t = some (.map k e)) {z : Value} (hz : (zeroValue e).run P w = .ok z w) (x : Nat) (hx : x < 18446744073709551616) :
    (Instr.lookup t (.map (some b)) (.int .u64 x) false).run P w = .ok ((getA l x).getD z) w := by
  obtain ⟨v, ps, hrun, hv⟩ := h.1.lookup (int_keyed hk) ht hz (zd := .held z) (zp := []) rfl (keyU hk x hx)
  rw [atKey_dU] at hv
  cases hv
  exact hrun
theorem turned_size (h : w.mapTurned w' b) : w'.heap.size = w.heap.size := by
  obtain ⟨_, _, _, _, _, rfl⟩ := h
  simp [Go.ChangeMaps.setBlock]
/-- 'm[x] = v' -/
theorem MapU.store (h : MapU P k w b l) (hk : P.underlying k = some (.int .u64)) (ht : P.underlying t = some (.map k e)) (x : Nat) (hx : x < 18446744073709551616) (v : Value) (hl : l.length < maxLen) :
    ∃ w', (Instr.mapUpdate t (.map (some b)) (.int .u64 x) v).run P w = .ok () w' ∧ MapU P k w' b (putA l x v) ∧ Only w w' (fun q => q = b) ∧ w'.heap.size = w.heap.size := by
  obtain ⟨w', hrun, h1, h2⟩ := h.1.store (int_keyed hk) ht hl (keyU hk x hx) (val := v) (d := .held v) (ps := []) rfl
  rw [put_dU] at h1
  have ho := Only.of_grown h2.grown
  exact ⟨w', hrun, ⟨ownsMap_exact h1, h.2.put x v hx⟩, ho.mono (fun i _ e => by cases e; rfl), turned_size h2⟩
/-- 'delete(m, x)' -/
theorem MapU.drop (h : MapU P k w b l) (hk : P.underlying k = some (.int .u64)) (ht : P.underlying t = some (.map k e)) (x : Nat) (hx : x < 18446744073709551616) (ty : TypeId) :
    ∃ w', (Builtin.delete_ #[t, k] ty #[.map (some b), .int .u64 x]).run P w = .ok (.tuple #[]) w' ∧ MapU P k w' b (delA l x) ∧ Only w w' (fun q => q = b) ∧ w'.heap.size = w.heap.size := by
  obtain ⟨w', hrun, h1, h2⟩ := h.1.drop (int_keyed hk) ht (keyU hk x hx) ty
  rw [del_dU] at h1
  have ho := Only.of_grown h2.grown
  exact ⟨w', hrun, ⟨ownsMap_exact h1, h.2.del x⟩, ho.mono (fun i _ e => by cases e; rfl), turned_size h2⟩
/-- 'len(m)' -/
theorem MapU.len (h : MapU P k w b l) (ht : P.underlying t = some (.map k e)) (ty : TypeId) : (Builtin.len_ #[t] ty #[.map (some b)]).run P w = .ok (.int .i64 l.length) w := by
  have := h.1.len ht ty
  rwa [size_dU] at this
end
end Go.Proofs.Ytnbncjebmlicgaa
