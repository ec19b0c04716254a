/- Plain: what the namer answers does not hang on what stands at the nodes. -/
import Derived.Test.YtljdphpbalioaaaGreatDoorGpA
namespace Go.Proofs.YtljdphpbalioaaaGreatDoor
open Go.RowKit
set_option linter.unusedSectionVars false

namespace Nm
variable {α β : Type} [DecidableEq α] [DecidableEq β]
/-- two words of what is known in a function: one of the other's labels -/
structure Rel (h : α → β) (S : α → Prop) (s : St α) (r : St β) : Prop where
  used : r.used = s.used
  scope : r.scope = s.scope.map fun f y => (f y).map h
  calls : r.calls = s.calls.map fun c => (c.1, c.2.1, h c.2.2)
  mine : ∀ c ∈ s.calls, S c.2.2
  ref : ∀ a, S a → r.ref (h a) = s.ref a
structure RelF (h : α → β) (S : α → Prop) (s : Fs α) (r : Fs β) : Prop where
  funcs : ∀ k, r.funcs k = (s.funcs k).map h
  calls : r.calls = s.calls.map fun c => (c.1, c.2.1, h c.2.2)
  mine : ∀ c ∈ s.calls, S c.2.2
  ref : ∀ a, S a → r.ref (h a) = s.ref a
variable {h : α → β} {S : α → Prop} {I : α → Nat} {J : β → Nat}
theorem upd_rel (hinj : ∀ a b, S a → S b → h a = h b → a = b) {f : α → Nat} {g : β → Nat} (hr : ∀ a, S a → g (h a) = f a) {a : α} (ha : S a) (v : Nat) : ∀ b, S b → updF g (h a) v (h b) = updF f a v b := by
  intro b hb
  unfold updF
  by_cases e : b = a
  · rw [if_pos (by rw [e]), if_pos e]
  · rw [if_neg fun e2 => e (hinj b a hb ha e2), if_neg e]
    exact hr b hb
theorem find_rel (x : Bs) : ∀ l : List (Bs → Option α), findS x (l.map fun f y => (f y).map h) = (findS x l).map h
  | [] => rfl
  | f :: r => by
    rw [List.map_cons, findS, findS]
    cases hf : f x with
    | none => exact find_rel x r
    | some a => rfl
theorem put_rel {κ : Type} [DecidableEq κ] {f : κ → Option α} {g : κ → Option β} (hr : ∀ k, g k = (f k).map h) (key : κ) (a : α) : ∀ k, putF g key (h a) k = (putF f key a k).map h := by
  intro k
  unfold putF
  split
  · rfl
  · exact hr k
theorem declare_rel {s : St α} {r : St β} (hr : Rel h S s r) (x : Bs) (a : α) : (declare x (h a) r).1 = (declare x a s).1 ∧ Rel h S (declare x a s).2 (declare x (h a) r).2 := by
  unfold declare
  rw [hr.used]
  split
  · exact ⟨rfl, hr⟩
  · refine ⟨rfl, rfl, ?_, hr.calls, hr.mine, hr.ref⟩
    rw [hr.scope]
    cases s.scope with
    | nil => rfl
    | cons f l =>
      show _ :: _ = _ :: _
      congr 1
      funext y
      exact put_rel (fun _ => rfl) x a y
theorem pre_rel (hinj : ∀ a b, S a → S b → h a = h b → a = b) (hid : ∀ a, J (h a) = I a) {s : St α} {r : St β} (hr : Rel h S s r) {a : α} (ha : S a) (k : Nat) (mod tgt : Bs) :
    (pre J (h a) k mod tgt r).1 = (pre I a k mod tgt s).1 ∧ Rel h S (pre I a k mod tgt s).2 (pre J (h a) k mod tgt r).2 := by
  unfold pre
  split
  · rw [hr.scope, find_rel]
    cases findS tgt s.scope with
    | none => exact ⟨rfl, hr⟩
    | some b => exact ⟨rfl, hr.used, rfl, hr.calls, hr.mine, by
      show ∀ c, S c → updF r.ref (h a) (J (h b)) (h c) = updF s.ref a (I b) c
      rw [hid]
      exact upd_rel hinj hr.ref ha _⟩
  split
  · refine ⟨rfl, hr.used, hr.scope, ?_, ?_, hr.ref⟩
    · show _ ++ _ = _
      rw [hr.calls, List.map_append]
      rfl
    · intro c hc
      rcases List.mem_append.1 hc with hc | hc
      · exact hr.mine c hc
      · rw [List.mem_singleton.1 hc]
        exact ha
  split
  · refine ⟨rfl, hr.used, ?_, hr.calls, hr.mine, hr.ref⟩
    show _ :: _ = _ :: _
    rw [hr.scope]
    rfl
  · exact ⟨rfl, hr⟩
theorem post_rel {s : St α} {r : St β} (hr : Rel h S s r) (a : α) (k : Nat) (name : Bs) :
    (post (h a) k name r).1 = (post a k name s).1 ∧ Rel h S (post a k name s).2 (post (h a) k name r).2 := by
  unfold post
  split
  · refine ⟨rfl, hr.used, ?_, hr.calls, hr.mine, hr.ref⟩
    show List.tail _ = _
    rw [hr.scope, List.map_tail]
  split
  · exact declare_rel hr name a
  · exact ⟨rfl, hr⟩
mutual
theorem visit_rel (hinj : ∀ a b, S a → S b → h a = h b → a = b) (hid : ∀ a, J (h a) = I a) : ∀ (t : LT α) (s : St α) (r : St β), (∀ x ∈ LT.labs t, S x) → Rel h S s r →
    (visit J (LT.map h t) r).1 = (visit I t s).1 ∧ Rel h S (visit I t s).2 (visit J (LT.map h t) r).2
  | .mk a k nm u ty m g ks, s, r, hl, hr => by
    rw [LT.labs_mk] at hl
    obtain ⟨p1, p2⟩ := pre_rel hinj hid hr (hl a (List.mem_cons_self ..)) k m g
    obtain ⟨q1, q2⟩ := visitL_rel hinj hid ks _ _ (fun x hx => hl x (List.mem_cons_of_mem _ hx)) p2
    obtain ⟨z1, z2⟩ := post_rel q2 a k nm
    rw [LT.map, visit, visit]
    simp only
    rw [p1, q1]
    split
    · split
      · exact ⟨z1, z2⟩
      · exact ⟨q1, q2⟩
    · exact ⟨p1, p2⟩
theorem visitL_rel (hinj : ∀ a b, S a → S b → h a = h b → a = b) (hid : ∀ a, J (h a) = I a) : ∀ (l : List (LT α)) (s : St α) (r : St β), (∀ x ∈ LT.labsL l, S x) → Rel h S s r →
    (visitL J (LT.mapL h l) r).1 = (visitL I l s).1 ∧ Rel h S (visitL I l s).2 (visitL J (LT.mapL h l) r).2
  | [], s, r, _, hr => by rw [LT.mapL, visitL, visitL]; exact ⟨rfl, hr⟩
  | t :: l, s, r, hl, hr => by
    rw [LT.labsL_cons] at hl
    obtain ⟨p1, p2⟩ := visit_rel hinj hid t s r (fun x hx => hl x (List.mem_append_left _ hx)) hr
    obtain ⟨q1, q2⟩ := visitL_rel hinj hid l _ _ (fun x hx => hl x (List.mem_append_right _ hx)) p2
    rw [LT.mapL, visitL, visitL]
    try simp only
    rw [p1]
    split
    · exact ⟨q1, q2⟩
    · exact ⟨p1, p2⟩
end
theorem funcL_rel (hinj : ∀ a b, S a → S b → h a = h b → a = b) (hid : ∀ a, J (h a) = I a) : ∀ (l : List (LT α)) (s : St α) (r : St β), (∀ x ∈ LT.labsL l, S x) → Rel h S s r →
    (funcL J (LT.mapL h l) r).1 = (funcL I l s).1 ∧ Rel h S (funcL I l s).2 (funcL J (LT.mapL h l) r).2
  | [], s, r, _, hr => by rw [LT.mapL, funcL, funcL]; exact ⟨rfl, hr⟩
  | t :: l, s, r, hl, hr => by
    rw [LT.labsL_cons] at hl
    have key : ((if (LT.map h t).kind = 4 then declare (LT.map h t).name (LT.map h t).lab r else visit J (LT.map h t) r).1 = (if t.kind = 4 then declare t.name t.lab s else visit I t s).1) ∧
        Rel h S (if t.kind = 4 then declare t.name t.lab s else visit I t s).2 (if (LT.map h t).kind = 4 then declare (LT.map h t).name (LT.map h t).lab r else visit J (LT.map h t) r).2 := by
      rw [LT.map_kind, LT.map_name, LT.map_lab]
      split
      · exact declare_rel hr _ _
      · exact visit_rel hinj hid t s r (fun x hx => hl x (List.mem_append_left _ hx)) hr
    obtain ⟨p1, p2⟩ := key
    obtain ⟨q1, q2⟩ := funcL_rel hinj hid l _ _ (fun x hx => hl x (List.mem_append_right _ hx)) p2
    rw [LT.mapL, funcL, funcL]
    rw [p1]
    by_cases hz : (if t.kind = 4 then declare t.name t.lab s else visit I t s).1 = 0
    · rw [if_pos hz, if_pos hz]
      exact ⟨q1, q2⟩
    · rw [if_neg hz, if_neg hz]
      exact ⟨p1, p2⟩
theorem kids_labs {t : LT α} {x : α} (hx : x ∈ LT.labsL t.kids) : x ∈ LT.labs t := by
  obtain ⟨a, k, n, u, ty, m, g, ks⟩ := t
  rw [LT.labs_mk]
  exact List.mem_cons_of_mem _ hx
theorem func_rel (hinj : ∀ a b, S a → S b → h a = h b → a = b) (hid : ∀ a, J (h a) = I a) (mod : Bs) (t : LT α) (s : Fs α) (r : Fs β) (hl : ∀ x ∈ LT.labs t, S x) (hr : RelF h S s r) :
    (func J mod (LT.map h t) r).1 = (func I mod t s).1 ∧ RelF h S (func I mod t s).2 (func J mod (LT.map h t) r).2 := by
  unfold func
  rw [LT.map_name, LT.map_lab, LT.map_kids, hr.funcs, Option.isSome_map]
  split
  · exact ⟨rfl, hr⟩
  · obtain ⟨q1, q2⟩ := funcL_rel (S := S) hinj hid t.kids ⟨fun _ => false, [fun _ => none], s.calls, s.ref⟩ ⟨fun _ => false, [fun _ => none], r.calls, r.ref⟩ (fun x hx => hl x (kids_labs hx)) ⟨rfl, rfl, hr.calls, hr.mine, hr.ref⟩
    exact ⟨q1, put_rel hr.funcs _ _, q2.calls, q2.mine, q2.ref⟩
theorem funcsL_rel (hinj : ∀ a b, S a → S b → h a = h b → a = b) (hid : ∀ a, J (h a) = I a) (mod : Bs) : ∀ (l : List (LT α)) (s : Fs α) (r : Fs β), (∀ x ∈ LT.labsL l, S x) → RelF h S s r →
    (funcsL J mod (LT.mapL h l) r).1 = (funcsL I mod l s).1 ∧ RelF h S (funcsL I mod l s).2 (funcsL J mod (LT.mapL h l) r).2
  | [], s, r, _, hr => by rw [LT.mapL, funcsL, funcsL]; exact ⟨rfl, hr⟩
  | t :: l, s, r, hl, hr => by
    rw [LT.labsL_cons] at hl
    obtain ⟨p1, p2⟩ := func_rel hinj hid mod t s r (fun x hx => hl x (List.mem_append_left _ hx)) hr
    obtain ⟨q1, q2⟩ := funcsL_rel hinj hid mod l _ _ (fun x hx => hl x (List.mem_append_right _ hx)) p2
    rw [LT.mapL, funcsL, funcsL]
    try simp only
    rw [p1]
    split
    · exact ⟨q1, q2⟩
    · exact ⟨p1, p2⟩
theorem modsL_rel (hinj : ∀ a b, S a → S b → h a = h b → a = b) (hid : ∀ a, J (h a) = I a) : ∀ (l : List (LT α)) (ms : Bs → Bool) (s : Fs α) (r : Fs β), (∀ x ∈ LT.labsL l, S x) → RelF h S s r →
    (modsL J (LT.mapL h l) ms r).1 = (modsL I l ms s).1 ∧ RelF h S (modsL I l ms s).2 (modsL J (LT.mapL h l) ms r).2
  | [], ms, s, r, _, hr => by rw [LT.mapL, modsL, modsL]; exact ⟨rfl, hr⟩
  | t :: l, ms, s, r, hl, hr => by
    rw [LT.labsL_cons] at hl
    obtain ⟨p1, p2⟩ := funcsL_rel hinj hid t.name t.kids s r (fun x hx => hl x (List.mem_append_left _ (kids_labs hx))) hr
    obtain ⟨q1, q2⟩ := modsL_rel hinj hid l (fun y => decide (y = t.name) || ms y) _ _ (fun x hx => hl x (List.mem_append_right _ hx)) p2
    rw [LT.mapL, modsL, modsL]
    simp only
    rw [LT.map_name, LT.map_kids]
    split
    · exact ⟨rfl, hr⟩
    try simp only
    rw [p1]
    split
    · exact ⟨q1, q2⟩
    · exact ⟨p1, p2⟩
theorem callsL_rel (hinj : ∀ a b, S a → S b → h a = h b → a = b) (hid : ∀ a, J (h a) = I a) {f : Bs × Bs → Option α} {g : Bs × Bs → Option β} (hf : ∀ k, g k = (f k).map h) :
    ∀ (l : List (Bs × Bs × α)) (R : α → Nat) (Q : β → Nat), (∀ c ∈ l, S c.2.2) → (∀ a, S a → Q (h a) = R a) →
    (callsL J (l.map fun c => (c.1, c.2.1, h c.2.2)) g Q).1 = (callsL I l f R).1 ∧ ∀ a, S a → (callsL J (l.map fun c => (c.1, c.2.1, h c.2.2)) g Q).2 (h a) = (callsL I l f R).2 a
  | [], R, Q, _, hr => by rw [List.map_nil, callsL, callsL]; exact ⟨rfl, hr⟩
  | c :: l, R, Q, hl, hr => by
    rw [List.map_cons, callsL, callsL]
    simp only
    rw [hf]
    cases f (c.1, c.2.1) with
    | none => exact ⟨rfl, hr⟩
    | some b =>
      show (callsL J _ g (updF Q (h c.2.2) (J (h b)))).1 = (callsL I l f (updF R c.2.2 (I b))).1 ∧ ∀ a, S a → (callsL J _ g (updF Q (h c.2.2) (J (h b)))).2 (h a) = (callsL I l f (updF R c.2.2 (I b))).2 a
      rw [hid]
      exact callsL_rel hinj hid hf l _ _ (fun x hx => hl x (List.mem_cons_of_mem _ hx)) (upd_rel hinj hr (hl c (List.mem_cons_self ..)) _)
theorem all_rel (hinj : ∀ a b, S a → S b → h a = h b → a = b) (hid : ∀ a, J (h a) = I a) (t : LT α) (hl : ∀ x ∈ LT.labs t, S x) :
    (all J (LT.map h t)).1 = (all I t).1 ∧ ∀ a, S a → (all J (LT.map h t)).2 (h a) = (all I t).2 a := by
  obtain ⟨p1, p2⟩ := modsL_rel (S := S) hinj hid t.kids (fun _ => false) ⟨fun _ => none, [], fun _ => 0⟩ ⟨fun _ => none, [], fun _ => 0⟩ (fun x hx => hl x (kids_labs hx)) ⟨fun _ => rfl, rfl, fun _ hc => (nomatch hc), fun _ _ => rfl⟩
  unfold all
  rw [LT.map_kids]
  simp only
  rw [p1]
  split
  · rw [p2.calls]
    exact callsL_rel hinj hid p2.funcs _ _ _ p2.mine p2.ref
  · exact ⟨rfl, p2.ref⟩
mutual
theorem layT_rel (hid : ∀ a, J (h a) = I a) {R : α → Nat} {Q : β → Nat} : ∀ (t : LT α) (l : List (Nat × Nd)), (∀ x ∈ LT.labs t, Q (h x) = R x) → layT J Q l (LT.map h t) = layT I R l t
  | .mk a k nm u ty m g ks, l, hr => by
    rw [LT.labs_mk] at hr
    have e : (LT.mapL h ks).map (fun x => J x.lab) = ks.map fun x => I x.lab := by
      rw [LT.mapL_eq, List.map_map]
      refine List.map_congr_left fun x _ => ?_
      show J (LT.map h x).lab = _
      rw [LT.map_lab, hid]
    rw [LT.map, layT, layT, hid, hr a (List.mem_cons_self ..), layL_rel hid ks l fun x hx => hr x (List.mem_cons_of_mem _ hx), e]
theorem layL_rel (hid : ∀ a, J (h a) = I a) {R : α → Nat} {Q : β → Nat} : ∀ (ks : List (LT α)) (l : List (Nat × Nd)), (∀ x ∈ LT.labsL ks, Q (h x) = R x) → layL J Q l (LT.mapL h ks) = layL I R l ks
  | [], l, _ => by rw [LT.mapL, layL, layL]
  | t :: r, l, hr => by
    rw [LT.labsL_cons] at hr
    rw [LT.mapL, layL, layL, layT_rel hid t l fun x hx => hr x (List.mem_append_left _ hx), layL_rel hid r _ fun x hx => hr x (List.mem_append_right _ hx)]
end
theorem inj_of_map {f : α → β} : ∀ {l : List α}, (l.map f).Nodup → ∀ a b, a ∈ l → b ∈ l → f a = f b → a = b
  | [], _, _, _, ha, _, _ => nomatch ha
  | x :: l, h, a, b, ha, hb, e => by
    rw [List.map_cons, List.nodup_cons] at h
    rcases List.mem_cons.1 ha with h1 | h1
    · rcases List.mem_cons.1 hb with h2 | h2
      · rw [h1, h2]
      · exact absurd (List.mem_map.2 ⟨b, h2, by rw [← e, h1]⟩) h.1
    · rcases List.mem_cons.1 hb with h2 | h2
      · exact absurd (List.mem_map.2 ⟨a, h1, by rw [e, h2]⟩) h.1
      · exact inj_of_map h.2 a b h1 h2 e
/-- the answer is the numbered tree's -/
theorem all_tag (T : LT Nat) (hn : (LT.labs T).Nodup) :
    (all (numT (fun _ => 0) 1 T).1 T).1 = (all (fun n => n) (tag 1 T.bare)).1 ∧
      ∀ l, layT (numT (fun _ => 0) 1 T).1 (all (numT (fun _ => 0) 1 T).1 T).2 l T = layT (fun n => n) (all (fun n => n) (tag 1 T.bare)).2 l (tag 1 T.bare) := by
  have e := numT_tag T (fun _ => 0) 1 hn
  obtain ⟨f, hf⟩ : ∃ f, f = (numT (fun _ => 0) 1 T).1 := ⟨_, rfl⟩
  rw [← hf] at e ⊢
  have hinj : ∀ a b, a ∈ LT.labs T → b ∈ LT.labs T → f a = f b → a = b := by
    have h1 : ((LT.labs T).map f).Nodup := by
      rw [← LT.labs_map, e, tag_labs]
      exact List.nodup_range'
    intro a b ha hb h2
    exact inj_of_map h1 a b ha hb h2
  obtain ⟨a1, a2⟩ := all_rel (h := f) (S := fun x => x ∈ LT.labs T) (I := f) (J := fun n => n) hinj (fun _ => rfl) T fun x hx => hx
  rw [e] at a1 a2
  refine ⟨a1.symm, fun l => ?_⟩
  have h3 := layT_rel (h := f) (I := f) (J := fun n => n) (R := (all f T).2) (Q := (all (fun n => n) (tag 1 T.bare)).2) (fun _ => rfl) T l fun x hx => a2 x hx
  rw [e] at h3
  exact h3.symm
end Nm
end Go.Proofs.YtljdphpbalioaaaGreatDoor
