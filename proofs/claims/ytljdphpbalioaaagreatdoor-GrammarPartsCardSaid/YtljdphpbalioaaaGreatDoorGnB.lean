/- Walk: the nodes are laid into the arena. -/
import Derived.Test.YtljdphpbalioaaaGreatDoorGnU
import Derived.Test.YtljdphpbalioaaaGreatDoorGrN
namespace Go.Proofs.YtljdphpbalioaaaGreatDoor
open Go.RowKit

structure LayM (gm N0 : Nat) (L : List (LT Nat)) (I R : Nat → Nat) (ga ba n : Nat) (mf mm cv uv sv : Value) (w : World) (K : Nat → Value) (l : List (Nat × Nd)) (Q : Nat → Prop) : Prop where
  mem : MemT w N0 L I R K
  ar : ArAt w ga ba l
  far : ArFar w ba Q
  box : BoxM w gm (.pointer (some ⟨ga, 0, none⟩)) n mf mm cv uv sv
  low : N0 ≤ gm ∧ N0 ≤ ba ∧ N0 ≤ ga
theorem MapU.unique {P : Program} {k : TypeId} {w : World} {b : Nat} {l1 l2 : List (Nat × Value)} (h1 : MapU P k w b l1) (h2 : MapU P k w b l2) : l1 = l2 := by
  obtain ⟨es, c, hb, -, -, hD⟩ := h1.1
  obtain ⟨es2, c2, hb2, -, -, hD2⟩ := h2.1
  rw [hb] at hb2
  cases hb2
  have e1 : dU l1 = dU l2 := hD.trans hD2.symm
  have e2 : entU l1 = entU l2 := DataW.map.inj e1
  clear h1 h2 hb hD hD2 e1
  unfold entU at e2
  induction l1 generalizing l2 with
  | nil => cases l2 with
    | nil => rfl
    | cons _ _ => cases e2
  | cons p r ih =>
    cases l2 with
    | nil => cases e2
    | cons p2 r2 =>
      rw [List.map_cons, List.map_cons] at e2
      obtain ⟨e3, e4⟩ := List.cons.inj e2
      have e5 := Prod.mk.inj e3
      have e6 := (Lit.int.inj e5.1).2
      have e7 := DataW.held.inj e5.2
      rw [ih e4, show p = p2 from Prod.ext (by omega) e7]
theorem StepA.memMono {α β : Type} {R S : α → β → Prop} {l : List (Nat × α)} {m : List (Nat × β)} (h : StepA R l m) (hRS : ∀ p ∈ l, ∀ b, R p.2 b → S p.2 b) : StepA S l m := by
  induction h with
  | nil => exact .nil
  | cons h _ ih => exact .cons ⟨h.1, hRS _ (List.mem_cons_self ..) _ h.2⟩ (ih fun p hp => hRS p (List.mem_cons_of_mem _ hp))
theorem ArFar.ar {w w' : World} {b g : Nat} {Q : Nat → Prop} {l : List (Nat × Nd)} (h : ArAt w g b l) (hf : ArFar w b Q) {e base size m : Nat} {v : Value} {xs : List Value} (ho : Only w w' (fun k => v.ownBlock = some k)) (hv : w.ownsRow base e size v m xs) (he : 61 ≠ e) (hq : ∀ q, Q q → v.ownBlock ≠ some q) : ArAt w' g b l ∧ ArFar w' b Q := by
  obtain ⟨vl, h1, h2⟩ := hf
  obtain ⟨vl2, g1, g2⟩ := h.ex
  have e1 := g1.unique h1
  subst e1
  obtain ⟨es, c, hobj⟩ := h1.isMap
  have hnb : ¬ v.ownBlock = some b := fun e => by
    obtain ⟨cur, hc⟩ := own_block hv e
    rw [hobj] at hc
    cases hc
  have hng : ¬ v.ownBlock = some g := fun e => own_ne hv h.box he e
  refine ⟨⟨(ho.block g h.lt.1 hng).trans h.box, ⟨_, h1.only ho hnb, g2.memMono fun p hp n hn => ?_⟩, h.nz, h.few⟩, ⟨_, h1.only ho hnb, h2⟩⟩
  obtain ⟨kv, e2, h3, h4⟩ := hn
  exact ⟨kv, e2, own_only h3 ho (fun k hk e => hq k (h2 p hp n kv e2 k hk) e), h4⟩
section
variable {gm N0 : Nat} {L : List (LT Nat)} {I R : Nat → Nat} {ga ba n : Nat} {mf mm cv uv sv : Value} {w w' : World} {K : Nat → Value} {l : List (Nat × Nd)} {Q : Nat → Prop}
theorem LayM.below (h : LayM gm N0 L I R ga ba n mf mm cv uv sv w K l Q) (hb : Below w.heap.size w w') : LayM gm N0 L I R ga ba n mf mm cv uv sv w' K l Q :=
  ⟨h.mem.below hb, h.ar.below hb, h.far.below hb, h.box.only (Only.of_below hb fun _ => False) (fun h => h), h.low⟩
theorem LayM.mono (h : LayM gm N0 L I R ga ba n mf mm cv uv sv w K l Q) {Q' : Nat → Prop} (hq : ∀ q, Q q → Q' q) : LayM gm N0 L I R ga ba n mf mm cv uv sv w K l Q' := ⟨h.mem, h.ar, h.far.mono hq, h.box, h.low⟩
/-- rows of Q that are below the world's end: another row is not among them -/
theorem ArFar.less (h : ArFar w ba Q) {g : Nat} (ha : ArAt w g ba l) : ArFar w ba (fun q => Q q ∧ q < w.heap.size) := by
  obtain ⟨vl, h1, h2⟩ := h
  obtain ⟨vl2, g1, g2⟩ := ha.ex
  have e1 := g1.unique h1
  subst e1
  refine ⟨_, h1, fun p hp m kv e q hk => ⟨h2 p hp m kv e q hk, ?_⟩⟩
  have : ∀ {l1 : List (Nat × Value)} {l2 : List (Nat × Nd)}, StepA (fun v n => OwnNd 0 w v n) l1 l2 → p ∈ l1 → ∃ n, OwnNd 0 w p.2 n := fun hs => by
    induction hs with
    | nil => exact fun h => nomatch h
    | cons h _ ih =>
      intro hp
      rcases List.mem_cons.1 hp with rfl | hp
      · exact ⟨_, h.2⟩
      · exact ih hp
  obtain ⟨n2, kv2, e2, h3, -⟩ := this g2 hp
  have e5 : NdVal m kv = NdVal n2 kv2 := e.symm.trans e2
  unfold NdVal at e5
  have e5 := Value.agg.inj e5
  have e6 := congrArg Array.toList e5
  simp only [List.cons.injEq, and_true] at e6
  rw [e6.2.2.2.2.2] at hk
  exact (h3.lt q hk).2
/-- a row of the node's kids has grown -/
theorem LayM.grown (h : LayM gm N0 L I R ga ba n mf mm cv uv sv w K l Q) {base m : Nat} {v : Value} {xs : List Value} (ho : Only w w' (fun k => v.ownBlock = some k)) (hv : w.ownsRow base 34 1 v m xs) (hb : N0 ≤ base) (hq : ∀ q, Q q → v.ownBlock ≠ some q) : LayM gm N0 L I R ga ba n mf mm cv uv sv w' K l Q := by
  obtain ⟨h1, h2⟩ := ArFar.ar h.ar h.far ho hv (by decide) hq
  exact ⟨h.mem.only ho (fun k hk e => by have := (hv.lt k e).1; omega), h1, h2, h.box.only ho (fun e => own_ne hv h.box (by decide) e), h.low⟩
/-- .. and is stored -/
theorem LayM.stored (h : LayM gm N0 L I R ga ba n mf mm cv uv sv w K l Q) {a : LT Nat} (ha : a ∈ L) (v : Value) : LayM gm N0 L I R ga ba n mf mm cv uv sv (w.setCell ⟨a.lab, 5, none⟩ v) (updF K a.lab v) l Q := by
  have ho : Only w (w.setCell ⟨a.lab, 5, none⟩ v) (fun k => k = a.lab) := Only.setCell w ⟨a.lab, 5, none⟩ _
  have hlt := (h.mem a ha).lt
  have hl := h.low
  obtain ⟨kv, hrow⟩ := h.mem.row ha
  exact ⟨h.mem.nk ha v, h.ar.only ho (fun e => by omega) (fun e => by omega) (fun k hk cs fr e => by rw [show k = a.lab from hk, hrow] at e; cases e), h.far.only ho (fun e => by omega), h.box.only ho (fun e => by omega), h.low⟩
end
def LaySays (gm N0 : Nat) (L : List (LT Nat)) (I R : Nat → Nat) (ga ba n : Nat) (mf mm cv uv sv : Value) (t : LT Nat) : Prop :=
  ∀ (w : World) (K : Nat → Value) (l : List (Nat × Nd)) (Q : Nat → Prop), (∀ a ∈ t.nodes, a ∈ L) → (t.nodes.map LT.lab).Nodup → LayM gm N0 L I R ga ba n mf mm cv uv sv w K l Q → (∀ q, w.heap.size ≤ q → Q q) → (∀ a ∈ t.nodes, K a.lab = .slice none 0 0) → l.length + LT.countL t.kids ≤ 20000 → (l.length + t.count ≤ 20000 ∨ (getA l (I t.lab)).isSome = true) →
    Calls Tryz.prog 17 #[.pointer (some ⟨gm, 0, none⟩), ptrG t.lab] w fun e w' => e = .returned (.tuple #[]) ∧ ∃ K', LayM gm N0 L I R ga ba n mf mm cv uv sv w' K' (Nm.layT I R l t) Q ∧ (∀ x, ¬ Lb t.nodes x → K' x = K x) ∧ Only w w' (fun k => k = ba ∨ Lb t.nodes k)
theorem MemT.c5 {w : World} {N0 : Nat} {L : List (LT Nat)} {I R : Nat → Nat} {K : Nat → Value} (h : MemT w N0 L I R K) {a : LT Nat} (ha : a ∈ L) : w.cell? ⟨a.lab, 5, none⟩ = some (K a.lab) := by
  obtain ⟨kv, hrow⟩ := h.row ha
  exact cell_of_row w a.lab 5 _ _ _ hrow
theorem MemT.c9 {w : World} {N0 : Nat} {L : List (LT Nat)} {I R : Nat → Nat} {K : Nat → Value} (h : MemT w N0 L I R K) {a : LT Nat} (ha : a ∈ L) : w.cell? ⟨a.lab, 9, none⟩ = some (.int .u64 (I a.lab : Nat)) := by
  obtain ⟨kv, hrow⟩ := h.row ha
  exact cell_of_row w a.lab 9 _ _ _ hrow
def LayOk (L : List (LT Nat)) (I R : Nat → Nat) : Prop := ∀ a ∈ L, I a.lab ≠ 0 ∧ I a.lab < 18446744073709551616 ∧ R a.lab < 18446744073709551616 ∧ a.kind < 256 ∧ a.typ < 256 ∧ (Lit.int .i64 a.num).wf = true ∧ a.name.length ≤ 1000000
theorem putA_len {α : Type} (l : List (Nat × α)) (x : Nat) (v : α) : (putA l x v).length ≤ l.length + 1 := by
  unfold putA
  rw [length_insA]
  exact Nat.succ_le_succ (List.length_filter_le _ _)
mutual
theorem layT_len (I R : Nat → Nat) : ∀ (t : LT Nat) (l : List (Nat × Nd)), (Nm.layT I R l t).length ≤ l.length + t.count
  | .mk a _ _ _ _ _ _ ks, l => by
    unfold Nm.layT LT.count
    have h1 := layL_len I R ks l
    exact Nat.le_trans (putA_len _ _ _) (by omega)
theorem layL_len (I R : Nat → Nat) : ∀ (ks : List (LT Nat)) (l : List (Nat × Nd)), (Nm.layL I R l ks).length ≤ l.length + LT.countL ks
  | [], l => Nat.le_refl _
  | t :: r, l => by
    unfold Nm.layL LT.countL
    have h1 := layT_len I R t l
    have h2 := layL_len I R r (Nm.layT I R l t)
    omega
end
theorem getA_some_put {α : Type} {l : List (Nat × α)} {y : Nat} (h : (getA l y).isSome = true) (x : Nat) (v : α) : (getA (putA l x v) y).isSome = true := by
  by_cases hy : y = x
  · rw [hy, getA_put_same]; rfl
  · rw [getA_put_other _ _ _ _ hy]; exact h
mutual
theorem layT_some (I R : Nat → Nat) : ∀ (t : LT Nat) (l : List (Nat × Nd)) (y : Nat), (getA l y).isSome = true → (getA (Nm.layT I R l t) y).isSome = true
  | .mk a _ _ _ _ _ _ ks, l, y => by
    intro h
    unfold Nm.layT
    exact getA_some_put (layL_some I R ks l y h) _ _
theorem layL_some (I R : Nat → Nat) : ∀ (ks : List (LT Nat)) (l : List (Nat × Nd)) (y : Nat), (getA l y).isSome = true → (getA (Nm.layL I R l ks) y).isSome = true
  | [], l, y => fun h => h
  | t :: r, l, y => by
    intro h
    unfold Nm.layL
    exact layL_some I R r _ y (layT_some I R t l y h)
end
theorem layT_eq (I R : Nat → Nat) (l : List (Nat × Nd)) (t : LT Nat) : Nm.layT I R l t = putA (Nm.layL I R l t.kids) (I t.lab) (Nm.ndOf I R t) := by cases t; rfl
theorem nodes_eq (t : LT Nat) : t.nodes = t :: LT.nodesL t.kids := by cases t; rfl
set_option linter.unusedSimpArgs false in
set_option maxRecDepth 40000 in
set_option maxHeartbeats 3200000 in
theorem lay_walk (gm N0 : Nat) (L : List (LT Nat)) (I R : Nat → Nat) (ga ba n : Nat) (mf mm cv uv sv : Value) (hok : LayOk L I R) (t : LT Nat) (hih : ∀ k ∈ t.kids, LaySays gm N0 L I R ga ba n mf mm cv uv sv k) : LaySays gm N0 L I R ga ba n mf mm cv uv sv t := by
  intro w K l Q hsub hnd h hQ hK hlen hroom
  have htL : t ∈ L := hsub t (LT.nodes_self t)
  have HOKT := Lib.hid (hok t htL)
  have HIH := Lib.hid hih
  have hok2 := Lib.hid hok
  have HKIDS : Hid (∀ k ∈ t.kids, k ∈ L) := Lib.hid (fun k hk => hsub k (LT.nodes_kid hk (LT.nodes_self k)))
  have HSUB := Lib.hid hsub
  have hcount := LT.count_kids t
  have hne := nodes_eq t
  rw [hne, List.map_cons] at hnd
  have hnd2 := List.nodup_cons.1 hnd
  have HREST : Hid (∀ a ∈ LT.nodesL t.kids, a.lab ≠ t.lab ∧ a ∈ t.nodes ∧ a ∈ L ∧ K a.lab = .slice none 0 0) := Lib.hid (fun a ha => by
    have h1 : a ∈ t.nodes := by rw [hne]; exact List.mem_cons_of_mem _ ha
    exact ⟨fun e => hnd2.1 (by rw [← e]; exact List.mem_map_of_mem ha), h1, hsub a h1, hK a h1⟩)
  have HND := Lib.hid hnd2.2
  have hKt := hK t (LT.nodes_self t)
  obtain ⟨q, cq, hrow, hkr⟩ := h.mem.kr htL
  have g8 := cell_of_row w t.lab 8 _ _ _ hrow
  replace g8 : w.cell? ⟨t.lab, 8, none⟩ = some (.slice q t.kids.length cq) := g8
  obtain ⟨M, hM⟩ : ∃ M, M = t.kids.length := ⟨_, rfl⟩
  rw [← hM] at g8
  have HMM := Lib.hid hM
  have hfew : M ≤ 20000 := by rw [hM]; have := countL_len t.kids; omega
  have HKR := Lib.hid hkr
  have HN0W : Hid (N0 ≤ w.heap.size) := Lib.hid (by have := h.low.1; have := (Array.getElem?_eq_some_iff.1 h.box).1; omega)
  have HQ := Lib.hid hQ
  have hba : ba < w.heap.size := h.ar.lt.2
  have HT0 : Hid (K t.lab = .slice none 0 0) := Lib.hid hKt
  have HL0 : Hid (LayM gm N0 L I R ga ba n mf mm cv uv sv w K l (fun q => Q q ∧ (Value.slice none 0 0).ownBlock ≠ some q)) := Lib.hid (h.mono fun q hq => ⟨hq, fun e => by cases e⟩)
  have HLEN : Hid (l.length + LT.countL t.kids ≤ 20000 ∧ (l.length + LT.countL t.kids + 1 ≤ 20000 ∨ (getA l (I t.lab)).isSome = true)) := Lib.hid ⟨hlen, hroom.elim (fun h1 => .inl (by omega)) .inr⟩
  have HTN : Hid (Lb t.nodes t.lab) := Lib.hid ⟨t, LT.nodes_self t, rfl⟩
  obtain ⟨LL, hLL⟩ : ∃ LL, LL = Nm.layL I R l t.kids := ⟨_, rfl⟩
  have HLL := Lib.hid hLL
  have HRES : Hid (Nm.layT I R l t = putA LL (I t.lab) (Nm.ndOf I R t)) := Lib.hid (by rw [layT_eq, hLL])
  clear hih hsub hnd hnd2 h hQ hK hlen hroom hcount hne hKt hrow hkr hM hLL hok
  go_enter Tryz.func17, Tryz.ntmps17
  unfold ptrG
  go_upto_region 1 with fail
  go_loopw [5, 11] (fun _ i wr => ∃ (j : Nat) (K' : Nat → Value) (l' : List (Nat × Nd)) (v : Value), j ≤ M ∧ i = .int .i64 j ∧ Hid (Nm.layL I R l' (t.kids.drop j) = LL) ∧ Hid (LayM gm N0 L I R ga ba n mf mm cv uv sv wr K' l' (fun q => Q q ∧ v.ownBlock ≠ some q)) ∧ Hid (K' t.lab = v) ∧
      Hid (wr.ownsRow w.heap.size 34 1 v ((t.kids.take j).map fun k => I k.lab).length (((t.kids.take j).map fun k => I k.lab).map U64)) ∧ Hid (∀ a ∈ LT.nodesL (t.kids.drop j), a.lab ≠ t.lab ∧ a ∈ t.nodes ∧ a ∈ L ∧ K' a.lab = .slice none 0 0) ∧ Hid ((LT.nodesL (t.kids.drop j)).map LT.lab).Nodup ∧ Hid (∀ x, ¬ Lb t.nodes x → K' x = K x) ∧ Hid (Only w wr (fun k => k = ba ∨ Lb t.nodes k)) ∧ Hid (l'.length + LT.countL (t.kids.drop j) ≤ 20000 ∧ (l'.length + LT.countL (t.kids.drop j) + 1 ≤ 20000 ∨ (getA l' (I t.lab)).isSome = true))) (fun _ i _ => M - (intOf i).toNat)
  case atStart => exact ⟨0, K, l, .slice none 0 0, by omega, rfl, Lib.hid (by rw [List.drop_zero, HLL.out]), HL0, HT0, Lib.hid (World.ownsRow_nil _ _ _ _), Lib.hid (by rw [List.drop_zero]; exact HREST.out), Lib.hid (by rw [List.drop_zero]; exact HND.out), Lib.hid (fun _ _ => rfl), Lib.hid (Only.refl _ _), Lib.hid (by rw [List.drop_zero]; exact HLEN.out)⟩
  case round =>
    clear HL0 HT0 HREST HND HLEN g8 HLL
    obtain ⟨j, K', l', v, hj, rfl, hll, hlm, hkv, hown, hrest, hnd, hkout, hon, hln⟩ := hrel
    rename World => wr
    by_cases hlt : j < M
    · have d1 : decide ((j : Int) < (M : Int)) = true := decide_eq_true (by omega)
      have d1n : decide (j < M) = true := decide_eq_true hlt
      have hjl : j < t.kids.length := by rw [← HMM.out]; exact hlt
      obtain ⟨k, hk⟩ : ∃ k, t.kids[j]? = some k := ⟨_, List.getElem?_eq_getElem hjl⟩
      have hkm : k ∈ t.kids := List.mem_of_getElem? hk
      have hkL : k ∈ L := HKIDS.out k hkm
      have hkg : t.kids[j] = k := by rw [List.getElem?_eq_getElem hjl] at hk; exact Option.some.inj hk
      have hdr : t.kids.drop j = k :: t.kids.drop (j + 1) := by rw [List.drop_eq_getElem_cons hjl, hkg]
      have htk : (t.kids.take (j + 1)).map (fun k => I k.lab) = (t.kids.take j).map (fun k => I k.lab) ++ [I k.lab] := by
        rw [List.take_succ_eq_append_getElem hjl, List.map_append, hkg]
        rfl
      obtain ⟨b, hqb, -, -, hcell⟩ := KR.low N0 L q t.kids w wr _ HKR.out (fun x hx hl e => by
        rcases e with e | ⟨a, ha, e⟩
        · have := hlm.out.low.2.1; omega
        · exact hl ⟨a, HSUB.out a ha, e⟩) hon.out j k hk
      have k1 : (0 : Int) ≤ (j : Int) := by omega
      have k2 : (j : Int) < (M : Int) := by omega
      have HIK := Lib.hid (HIH.out k hkm)
      have HLLK : Hid (Nm.layL I R (Nm.layT I R l' k) (t.kids.drop (j + 1)) = LL) := Lib.hid (by rw [← hll.out, hdr]; rfl)
      have hr1 := hrest.out
      have hn1 := hnd.out
      have hl1 := hln.out
      rw [hdr] at hr1 hn1 hl1
      have hnL : LT.nodesL (k :: t.kids.drop (j + 1)) = k.nodes ++ LT.nodesL (t.kids.drop (j + 1)) := rfl
      rw [hnL] at hr1 hn1
      rw [List.map_append] at hn1
      have hnd3 := List.nodup_append.1 hn1
      have HNK : Hid ((k.nodes.map LT.lab).Nodup) := Lib.hid hnd3.1
      have HNR : Hid (((LT.nodesL (t.kids.drop (j + 1))).map LT.lab).Nodup) := Lib.hid hnd3.2.1
      have HDIS : Hid (∀ a ∈ LT.nodesL (t.kids.drop (j + 1)), ¬ Lb k.nodes a.lab) := Lib.hid (fun a ha ⟨a2, ha2, e⟩ => hnd3.2.2 _ (List.mem_map_of_mem ha2) _ (List.mem_map_of_mem ha) e)
      have HR1 : Hid (∀ a ∈ k.nodes, a.lab ≠ t.lab ∧ a ∈ t.nodes ∧ a ∈ L ∧ K' a.lab = .slice none 0 0) := Lib.hid (fun a ha => hr1 a (List.mem_append_left _ ha))
      have HR2 : Hid (∀ a ∈ LT.nodesL (t.kids.drop (j + 1)), a.lab ≠ t.lab ∧ a ∈ t.nodes ∧ a ∈ L ∧ K' a.lab = .slice none 0 0) := Lib.hid (fun a ha => hr1 a (List.mem_append_right _ ha))
      have HL1 : Hid (l'.length + k.count + LT.countL (t.kids.drop (j + 1)) ≤ 20000 ∧ (l'.length + k.count + LT.countL (t.kids.drop (j + 1)) + 1 ≤ 20000 ∨ (getA l' (I t.lab)).isSome = true)) := Lib.hid (by rw [countL_cons] at hl1; exact ⟨by omega, hl1.2.elim (fun h1 => .inl (by omega)) .inr⟩)
      obtain ⟨TK, hTK⟩ : ∃ TK, TK = (t.kids.take j).map (fun k => I k.lab) := ⟨_, rfl⟩
      have htl : TK.length ≤ 20000 := by rw [hTK, List.length_map, List.length_take]; omega
      have HTK := Lib.hid htl
      have HTK1 : Hid ((t.kids.take (j + 1)).map (fun k => I k.lab) = TK ++ [I k.lab]) := Lib.hid (by rw [htk, hTK])
      have hown2 := hown.out
      rw [← hTK] at hown2
      have HOWN : Hid (wr.drew.ownsRow w.heap.size 34 1 v TK.length (TK.map U64)) := Lib.hid hown2
      have HLM := Lib.hid (hlm.out.below (bdr (bre wr)))
      have HONW : Hid (Only w wr.drew (fun k => k = ba ∨ Lb t.nodes k)) := Lib.hid (hon.out.trans (Only.of_below (bdr (bre wr)) _) fun _ _ h => h)
      have HSZ : Hid (w.heap.size ≤ wr.drew.heap.size) := Lib.hid HONW.out.size
      have HKV := hkv
      have HKO := hkout
      have HSB : wr.drew.cell? ⟨t.lab, 5, none⟩ = some v ∧ wr.drew.cell? ⟨k.lab, 9, none⟩ = some (.int .u64 (I k.lab : Nat)) := ⟨by rw [← HKV.out]; exact HLM.out.mem.c5 htL, HLM.out.mem.c9 hkL⟩
      have HQB := Lib.hid hqb
      unfold ptrG at hcell
      rw [hqb]
      clear hk hkm hkg hdr htk hll hlm hkv hown hrest hnd hkout hon hln hr1 hn1 hl1 hnL hnd3 hTK htl hown2 hqb hjl
      go_upto_region 3 with fail
      clear hcell
      refine region_anyZ (z := 12) (S := fun w' => w'.cell? ⟨t.lab, 5, none⟩ = some v ∧ w'.cell? ⟨k.lab, 9, none⟩ = some (.int .u64 (I k.lab : Nat))) (by kernel_rfl) ?_
      refine anyZ_begin (fun hcl0 => ?_)
      refine anyZ_held (by exact HSB) (fun hHeld => ?_)
      -- 0: Op.move (Operand.tmp 1)
      refine' anyZ_pure (i := 0) (v := _) rfl (by rfl) (by kernel_rfl) (by kernel_rfl) (by kernel_rfl) hcl0 (fun _ _ _ h => h) (Or.inl ⟨by rfl, fun w _ => ?hz1⟩) (fun _ => hHeld) (fun hcl1 => ?rz1)
      case hz1 => (simp only [List.getElem_toArray, List.getElem_cons_zero]; first | (go_simp; with_reducible rfl) | (go_simp; done) | rfl)
      simp only [List.getElem_toArray, List.getElem_cons_zero, Act.put, List.setIfInBounds_toArray, List.set_cons_zero, List.set_cons_succ]
      -- 1: Op.move (Operand.tmp 1)
      refine' anyZ_pure (i := 1) (v := _) rfl (by rfl) (by kernel_rfl) (by kernel_rfl) (by kernel_rfl) hcl1 (fun _ _ _ h => h) (Or.inl ⟨by rfl, fun w _ => ?hz2⟩) (fun _ => hHeld) (fun hcl2 => ?rz2)
      case hz2 => (simp only [List.getElem_toArray, List.getElem_cons_succ, List.getElem_cons_zero]; first | (go_simp; with_reducible rfl) | (go_simp; done) | rfl)
      simp only [List.getElem_toArray, List.getElem_cons_succ, List.getElem_cons_zero, Act.put, List.setIfInBounds_toArray, List.set_cons_zero, List.set_cons_succ]
      -- 2: Op.nilCheck (Operand.tmp 16)
      refine' anyZ_pure (i := 2) (v := _) rfl (by rfl) (by kernel_rfl) (by kernel_rfl) (by kernel_rfl) hcl2 (fun _ _ _ h => h) (Or.inl ⟨by rfl, fun w _ => ?hz3⟩) (fun _ => hHeld) (fun hcl3 => ?rz3)
      case hz3 => (simp only [List.getElem_toArray, List.getElem_cons_succ, List.getElem_cons_zero]; first | (go_simp; with_reducible rfl) | (go_simp; done) | rfl)
      simp only [List.getElem_toArray, List.getElem_cons_succ, List.getElem_cons_zero, Act.put, List.setIfInBounds_toArray, List.set_cons_zero, List.set_cons_succ]
      -- 3: Op.fieldAddr 74 (Operand.tmp 17) 0
      refine' anyZ_pure (i := 3) (v := _) rfl (by rfl) (by kernel_rfl) (by kernel_rfl) (by kernel_rfl) hcl3 (fun _ _ _ h => h) (Or.inl ⟨by rfl, fun w _ => ?hz4⟩) (fun _ => hHeld) (fun hcl4 => ?rz4)
      case hz4 => (simp only [List.getElem_toArray, List.getElem_cons_succ, List.getElem_cons_zero]; first | (go_simp; with_reducible rfl) | (go_simp; done) | rfl)
      simp only [List.getElem_toArray, List.getElem_cons_succ, List.getElem_cons_zero, Act.put, List.setIfInBounds_toArray, List.set_cons_zero, List.set_cons_succ]
      -- 4: Op.fieldAddr 38 (Operand.tmp 18) 5
      refine' anyZ_pure (i := 4) (v := _) rfl (by rfl) (by kernel_rfl) (by kernel_rfl) (by kernel_rfl) hcl4 (fun _ _ _ h => h) (Or.inl ⟨by rfl, fun w _ => ?hz5⟩) (fun _ => hHeld) (fun hcl5 => ?rz5)
      case hz5 => (simp only [List.getElem_toArray, List.getElem_cons_succ, List.getElem_cons_zero]; first | (go_simp; with_reducible rfl) | (go_simp; done) | rfl)
      simp only [List.getElem_toArray, List.getElem_cons_succ, List.getElem_cons_zero, Act.put, List.setIfInBounds_toArray, List.set_cons_zero, List.set_cons_succ]
      -- 5: Op.load 36 (Operand.tmp 19)
      refine' anyZ_take (i := 5) (v := _) rfl (by rfl) (by kernel_rfl) (by kernel_rfl) (by kernel_rfl) hcl5 16 (by kernel_rfl) (by kernel_rfl) (fun _ _ _ h => h) (Or.inl ⟨by rfl, fun w hSw => ?hz6⟩) hHeld (fun hcl6 => ?rz6)
      case hz6 => (simp only [List.getElem_toArray, List.getElem_cons_succ, List.getElem_cons_zero]; obtain ⟨hS1, hS2⟩ := hSw; first | (go_simp; with_reducible rfl) | (go_simp; done) | rfl)
      simp only [List.getElem_toArray, List.getElem_cons_succ, List.getElem_cons_zero, Act.put, List.setIfInBounds_toArray, List.set_cons_zero, List.set_cons_succ]
      -- 6: Op.move (Operand.tmp 5)
      refine' anyZ_pure (i := 6) (v := _) rfl (by rfl) (by kernel_rfl) (by kernel_rfl) (by kernel_rfl) hcl6 (fun _ _ _ h => h) (Or.inl ⟨by rfl, fun w _ => ?hz7⟩) (fun _ => hHeld) (fun hcl7 => ?rz7)
      case hz7 => (simp only [List.getElem_toArray, List.getElem_cons_succ, List.getElem_cons_zero]; first | (go_simp; with_reducible rfl) | (go_simp; done) | rfl)
      simp only [List.getElem_toArray, List.getElem_cons_succ, List.getElem_cons_zero, Act.put, List.setIfInBounds_toArray, List.set_cons_zero, List.set_cons_succ]
      -- 7: Op.nilCheck (Operand.tmp 21)
      refine' anyZ_pure (i := 7) (v := _) rfl (by rfl) (by kernel_rfl) (by kernel_rfl) (by kernel_rfl) hcl7 (fun _ _ _ h => h) (Or.inl ⟨by rfl, fun w _ => ?hz8⟩) (fun _ => hHeld) (fun hcl8 => ?rz8)
      case hz8 => (simp only [List.getElem_toArray, List.getElem_cons_succ, List.getElem_cons_zero]; first | (go_simp; with_reducible rfl) | (go_simp; done) | rfl)
      simp only [List.getElem_toArray, List.getElem_cons_succ, List.getElem_cons_zero, Act.put, List.setIfInBounds_toArray, List.set_cons_zero, List.set_cons_succ]
      -- 8: Op.fieldAddr 74 (Operand.tmp 22) 4
      refine' anyZ_pure (i := 8) (v := _) rfl (by rfl) (by kernel_rfl) (by kernel_rfl) (by kernel_rfl) hcl8 (fun _ _ _ h => h) (Or.inl ⟨by rfl, fun w _ => ?hz9⟩) (fun _ => hHeld) (fun hcl9 => ?rz9)
      case hz9 => (simp only [List.getElem_toArray, List.getElem_cons_succ, List.getElem_cons_zero]; first | (go_simp; with_reducible rfl) | (go_simp; done) | rfl)
      simp only [List.getElem_toArray, List.getElem_cons_succ, List.getElem_cons_zero, Act.put, List.setIfInBounds_toArray, List.set_cons_zero, List.set_cons_succ]
      -- 9: Op.load 30 (Operand.tmp 23)
      refine' anyZ_take (i := 9) (v := _) rfl (by rfl) (by kernel_rfl) (by kernel_rfl) (by kernel_rfl) hcl9 16 (by kernel_rfl) (by kernel_rfl) (fun _ _ _ h => h) (Or.inl ⟨by rfl, fun w hSw => ?hz10⟩) hHeld (fun hcl10 => ?rz10)
      case hz10 => (simp only [List.getElem_toArray, List.getElem_cons_succ, List.getElem_cons_zero]; obtain ⟨hS1, hS2⟩ := hSw; first | (go_simp; with_reducible rfl) | (go_simp; done) | rfl)
      simp only [List.getElem_toArray, List.getElem_cons_succ, List.getElem_cons_zero, Act.put, List.setIfInBounds_toArray, List.set_cons_zero, List.set_cons_succ]
      -- 10: Op.buildSlice 36 1 #[(0, Operand.tmp 24)]
      refine anyZ_one (i := 10) hcl10 (by kernel_rfl) (by simp only [List.getElem?_toArray, List.getElem?_cons_succ, List.getElem?_cons_zero]; rfl) (by rfl) (fun hcl11 K hK => ?_)
      generalize wr.drew = W6 at *
      go_simp
      refine hK _ _ (fun _ => ?_) ?_
      · exact ⟨by rw [← HKV.out]; exact (HLM.out.below (bal (bre W6) _)).mem.c5 htL, (HLM.out.below (bal (bre W6) _)).mem.c9 hkL⟩
      clear hK K hHeld
      try simp only [Act.put, List.setIfInBounds_toArray, List.set_cons_zero, List.set_cons_succ]
      -- 11: Op.call { callee := Callee.builtin Builtin.append, args := #
      refine anyZ_one (i := 11) hcl11 (by kernel_rfl) (by simp only [List.getElem?_toArray, List.getElem?_cons_succ, List.getElem?_cons_zero]; rfl) (by rfl) (fun hcl12 K hK => ?_)
      have hb3 := bal (bre W6) (.cells #[.int .u64 (I k.lab : Nat)] 34)
      have hown3 := own_only HOWN.out (Only.of_below hb3 fun _ => False) (fun _ _ h => h)
      have hlm3 := HLM.out.below hb3
      have hnews : ∀ j u, [Value.int .u64 (I k.lab : Nat)][j]? = some u → (W6.alloc (.cells #[.int .u64 (I k.lab : Nat)] 34)).cell? ((⟨W6.heap.size, 0, none⟩ : Addr).add j) = some u := fun j u hu => by
        match j, hu with
        | 0, hu => cases hu; exact cell_of_row _ _ 0 _ _ _ (heap_alloc_new W6 _)
      have hs3 := hb3.size
      generalize W6.alloc (.cells #[.int .u64 (I k.lab : Nat)] 34) = W3 at *
      refine wp_app' _ _ 35 34 1 8 rowI rfl w.heap.size v TK.length (TK.map U64) rfl hown3 ⟨W6.heap.size, 0, none⟩ 1 1 [.int .u64 (I k.lab : Nat)] rfl rfl hnews (by simp [Value.oneCell']) (by have := HTK.out; unfold maxLen; omega) (by have := HTK.out; omega) (Nat.le_trans HSZ.out hs3) ?_
      intro v8 w8 k8 hg8 hs8
      have ho8 : Only W3 w8 (fun k => v.ownBlock = some k) := Only.of_grown hg8
      have hlm4 : LayM gm N0 L I R ga ba n mf mm cv uv sv W3 K' l' (fun q => (Q q ∧ v.ownBlock ≠ some q) ∧ q < W3.heap.size) := ⟨hlm3.mem, hlm3.ar, hlm3.far.less hlm3.ar, hlm3.box, hlm3.low⟩
      have HLM8 : Hid (LayM gm N0 L I R ga ba n mf mm cv uv sv w8 K' l' (fun q => Q q ∧ v8.ownBlock ≠ some q)) := Lib.hid ((hlm4.grown ho8 hown3 HN0W.out fun q hq => hq.1.2).mono fun q hq => ⟨hq.1.1, fun e => by
        rcases hs8 with h | h
        · rw [h] at e; exact hq.1.2 e
        · have := h q e; have := hq.2; omega⟩)
      have HOWN8 : Hid (w8.ownsRow w.heap.size 34 1 v8 (TK ++ [I k.lab]).length ((TK ++ [I k.lab]).map U64)) := Lib.hid (by rw [List.map_append, List.length_append]; exact k8)
      have HO8 : Hid (Only w w8 (fun k => k = ba ∨ Lb t.nodes k)) := Lib.hid (((HONW.out.trans (Only.of_below hb3 _) fun _ _ h => h)).trans ho8 fun i hi e => by have := (hown3.lt i e).1; omega)
      obtain ⟨a8, c8, rfl, -⟩ := ownsRow_lies k8
      clear hb3 hown3 hlm3 hlm4 hnews hs3 hg8 hs8 k8 ho8
      refine hK _ _ (fun _ => ?_) ?_
      · exact ⟨by rw [← HKV.out]; exact HLM8.out.mem.c5 htL, HLM8.out.mem.c9 hkL⟩
      clear hK K
      try simp only [Act.put, List.setIfInBounds_toArray, List.set_cons_zero, List.set_cons_succ]
      refine anyZ_chain_at (by kernel_rfl) ?_
      simp only [List.drop_succ_cons, List.drop_zero]
      obtain ⟨kv8, hrow8⟩ := HLM8.out.mem.row htL
      have c5 := cell_of_row _ t.lab 5 _ _ _ hrow8
      have cf := fun i => frozen_of_row _ t.lab i _ _ hrow8
      have hlm9 := HLM8.out.stored htL (.slice a8 (TK.length + 1) c8)
      have ho9 := Only.setCell w8 ⟨t.lab, 5, none⟩ (.slice a8 (TK.length + 1) c8)
      have hown9 := own_only HOWN8.out ho9 (fun q hq e => by
        have e : q = t.lab := e
        subst e
        exact own_ne HOWN8.out hrow8 (by decide) hq)
      have hon9 := HO8.out.trans ho9 fun i _ e => .inr (by rw [show i = t.lab from e]; exact HTN.out)
      clear HSB hrow8
      go_upto_region 4 with fail
      generalize w8.setCell ⟨t.lab, 5, none⟩ (.slice a8 (TK.length + 1) c8) = w9 at *
      have HLM9 := Lib.hid hlm9
      have HOWN9 := Lib.hid hown9
      have HON9 := Lib.hid hon9
      clear hlm9 ho9 hown9 hon9 c5 cf HLM8 HOWN8 HO8 HLM HOWN HONW HSZ
      go_wp2_with fail
      refine (HIK.out w9 (updF K' t.lab (.slice a8 (TK.length + 1) c8)) l' _ (fun a ha => (HR1.out a ha).2.2.1) HNK.out HLM9.out (fun q hq => ⟨HQ.out q (Nat.le_trans HON9.out.size hq), fun e => by have := (HOWN9.out.lt q e).2; omega⟩) (fun a ha => by rw [updF_other _ _ (HR1.out a ha).1]; exact (HR1.out a ha).2.2.2) (by have h1 := HL1.out.1; have h2 := LT.count_kids k; omega) (.inl (by have h1 := HL1.out.1; omega))).mono ?_
      rintro e w10 ⟨rfl, K10, hlm10, hk10, ho10⟩
      have hbaobj : ∃ es c, w9.heap[ba]? = some (.map es c) := by
        obtain ⟨vl, h1, -⟩ := HLM9.out.ar.ex
        exact h1.isMap
      have HOWN10 : Hid (w10.ownsRow w.heap.size 34 1 (.slice a8 (TK.length + 1) c8) ((t.kids.take (j + 1)).map fun k => I k.lab).length (((t.kids.take (j + 1)).map fun k => I k.lab).map U64)) := Lib.hid (by
        rw [HTK1.out]
        exact own_only HOWN9.out ho10 (fun q hq e => by
          obtain ⟨cur, hc⟩ := own_block HOWN9.out hq
          rcases e with e | ⟨a, ha, e⟩
          · obtain ⟨es, c, h1⟩ := hbaobj
            rw [e, h1] at hc
            cases hc
          · obtain ⟨kva, h1⟩ := HLM9.out.mem.row (HR1.out a ha).2.2.1
            rw [e, hc] at h1
            cases h1))
      have htk : ¬ Lb k.nodes t.lab := fun ⟨a, ha, e⟩ => (HR1.out a ha).1 e
      have HKV10 : Hid (K10 t.lab = .slice a8 (TK.length + 1) c8) := Lib.hid (by rw [hk10 _ htk, updF_same])
      have HKO10 : Hid (∀ x, ¬ Lb t.nodes x → K10 x = K x) := Lib.hid (fun x hx => by
        have h1 : ¬ Lb k.nodes x := fun ⟨a, ha, e⟩ => hx ⟨a, (HR1.out a ha).2.1, e⟩
        have h2 : x ≠ t.lab := fun e => hx (by rw [e]; exact HTN.out)
        rw [hk10 x h1, updF_other _ _ h2]
        exact HKO.out x hx)
      have HR10 : Hid (∀ a ∈ LT.nodesL (t.kids.drop (j + 1)), a.lab ≠ t.lab ∧ a ∈ t.nodes ∧ a ∈ L ∧ K10 a.lab = .slice none 0 0) := Lib.hid (fun a ha => by
        obtain ⟨h1, h2, h3, h4⟩ := HR2.out a ha
        refine ⟨h1, h2, h3, ?_⟩
        rw [hk10 _ (HDIS.out a ha), updF_other _ _ h1]
        exact h4)
      have HON10 : Hid (Only w w10 (fun k => k = ba ∨ Lb t.nodes k)) := Lib.hid (HON9.out.trans ho10 fun i _ e => by
        rcases e with e | ⟨a, ha, e⟩
        · exact .inl e
        · exact .inr ⟨a, (HR1.out a ha).2.1, e⟩)
      have HLM10 := Lib.hid hlm10
      have HLN10 : Hid ((Nm.layT I R l' k).length + LT.countL (t.kids.drop (j + 1)) ≤ 20000 ∧ ((Nm.layT I R l' k).length + LT.countL (t.kids.drop (j + 1)) + 1 ≤ 20000 ∨ (getA (Nm.layT I R l' k) (I t.lab)).isSome = true)) := Lib.hid (by
        have h1 := layT_len I R k l'
        have h2 := HL1.out
        refine ⟨by omega, ?_⟩
        rcases h2.2 with h3 | h3
        · exact .inl (by omega)
        · exact .inr (layT_some I R k l' _ h3))
      clear hlm10 hk10 ho10 hbaobj htk HLM9 HOWN9 HON9
      go_wp2_with fail
      go_roundw
      case rel => first | exact ⟨j + 1, K10, _, .slice a8 (TK.length + 1) c8, by omega, by go_num, HLLK, HLM10, HKV10, HOWN10, HR10, HNR, HKO10, HON10, HLN10⟩ | ((repeat apply Exists.intro); exact ⟨⟨j + 1, K10, _, .slice a8 (TK.length + 1) c8, by omega, by go_num, HLLK, HLM10, HKV10, HOWN10, HR10, HNR, HKO10, HON10, HLN10⟩, rfl⟩)
      case measure => simp [intOf]; omega
    · have d1 : decide ((j : Int) < (M : Int)) = false := decide_eq_false (by omega)
      have d1n : decide (j < M) = false := decide_eq_false hlt
      have hz : t.kids.drop j = [] := List.drop_eq_nil_of_le (by rw [← HMM.out]; omega)
      have htk : t.kids.take j = t.kids := List.take_of_length_le (by rw [← HMM.out]; omega)
      have HLE : Hid (l' = LL) := Lib.hid (by rw [← hll.out, hz]; rfl)
      have HLM := Lib.hid (hlm.out.below (bdr (bre wr)))
      have hown2 : OwnIds w.heap.size wr v (t.kids.map fun k => I k.lab) := by have h1 := hown.out; rw [htk] at h1; exact h1
      have hln2 : (getA l' (I t.lab)).isSome = true ∨ l'.length < 20000 := by
        rcases hln.out.2 with h1 | h1
        · exact .inr (by omega)
        · exact .inl h1
      have HO0 := Lib.hid hown2
      have HOV : Hid (wr.drew.ownsRow w.heap.size 34 1 v (t.kids.map fun k => I k.lab).length ((t.kids.map fun k => I k.lab).map U64)) := Lib.hid hown2
      have HON := Lib.hid (hon.out.trans (Only.of_below (bdr (bre wr)) _) fun _ _ h => h)
      have HKO := hkout
      have HKV := hkv
      have hNd : NdAt wr.drew (NdVal (Nm.ndOf I R t) v) (Nm.ndOf I R t) := ⟨v, rfl, OwnIds.ids (base := w.heap.size) hown2, ⟨HOKT.out.2.2.2.1, HOKT.out.2.2.2.2.1, HOKT.out.2.2.1, HOKT.out.2.2.2.2.2.1, by
        show t.name.toArray.size ≤ maxLen
        rw [List.size_toArray]
        have := HOKT.out.2.2.2.2.2.2
        unfold maxLen
        omega, by
        show (t.kids.map fun k => I k.lab).length ≤ 1000000
        rw [List.length_map, ← HMM.out]
        omega, fun x hx => by
        obtain ⟨k, hk, rfl⟩ := List.mem_map.1 hx
        exact (hok2.out k (HKIDS.out k hk)).2.1⟩⟩
      obtain ⟨kv6, hrow6⟩ := HLM.out.mem.row htL
      have t0 := cell_of_row _ t.lab 0 _ _ _ hrow6
      have t1 := cell_of_row _ t.lab 1 _ _ _ hrow6
      have t2 := cell_of_row _ t.lab 2 _ _ _ hrow6
      have t3 := cell_of_row _ t.lab 3 _ _ _ hrow6
      have t4 := cell_of_row _ t.lab 4 _ _ _ hrow6
      have m0 := cell_of_row _ gm 0 _ _ _ HLM.out.box
      have HSB : wr.drew.cell? ⟨gm, 0, none⟩ = some (.pointer (some ⟨ga, 0, none⟩)) ∧ wr.drew.cell? ⟨t.lab, 9, none⟩ = some (.int .u64 (I t.lab : Nat)) ∧ wr.drew.cell? ⟨t.lab, 0, none⟩ = some (.int .u8 (t.kind : Nat)) ∧ wr.drew.cell? ⟨t.lab, 1, none⟩ = some (.string (mk8 t.name)) ∧ wr.drew.cell? ⟨t.lab, 2, none⟩ = some (.int .i64 t.num) ∧ wr.drew.cell? ⟨t.lab, 3, none⟩ = some (.int .u8 (t.typ : Nat)) ∧ wr.drew.cell? ⟨t.lab, 4, none⟩ = some (.int .u64 (R t.lab : Nat)) ∧ wr.drew.cell? ⟨t.lab, 5, none⟩ = some v :=
        ⟨m0, HLM.out.mem.c9 htL, t0, t1, t2, t3, t4, by rw [← HKV.out]; exact HLM.out.mem.c5 htL⟩
      have HNd := Lib.hid hNd
      clear hll hlm hkv hown hrest hnd hkout hon hln hz htk hrow6 t0 t1 t2 t3 t4 m0 hNd hown2
      go_upto_region 6 with fail
      refine region_anyZ (z := 12) (S := fun w' => w'.cell? ⟨gm, 0, none⟩ = some (.pointer (some ⟨ga, 0, none⟩)) ∧ w'.cell? ⟨t.lab, 9, none⟩ = some (.int .u64 (I t.lab : Nat)) ∧ w'.cell? ⟨t.lab, 0, none⟩ = some (.int .u8 (t.kind : Nat)) ∧ w'.cell? ⟨t.lab, 1, none⟩ = some (.string (mk8 t.name)) ∧ w'.cell? ⟨t.lab, 2, none⟩ = some (.int .i64 t.num) ∧ w'.cell? ⟨t.lab, 3, none⟩ = some (.int .u8 (t.typ : Nat)) ∧ w'.cell? ⟨t.lab, 4, none⟩ = some (.int .u64 (R t.lab : Nat)) ∧ w'.cell? ⟨t.lab, 5, none⟩ = some v) (by kernel_rfl) ?_
      refine anyZ_begin (fun hcl0 => ?_)
      refine anyZ_held (by exact HSB) (fun hHeld => ?_)
      -- 0: Op.move (Operand.tmp 0)
      refine' anyZ_pure (i := 0) (v := _) rfl (by rfl) (by kernel_rfl) (by kernel_rfl) (by kernel_rfl) hcl0 (fun _ _ _ h => h) (Or.inl ⟨by rfl, fun w _ => ?hy1⟩) (fun _ => hHeld) (fun hcl1 => ?ry1)
      case hy1 => (simp only [List.getElem_toArray, List.getElem_cons_zero]; first | (go_simp; with_reducible rfl) | (go_simp; done) | rfl)
      simp only [List.getElem_toArray, List.getElem_cons_zero, Act.put, List.setIfInBounds_toArray, List.set_cons_zero, List.set_cons_succ]
      -- 1: Op.nilCheck (Operand.tmp 34)
      refine' anyZ_pure (i := 1) (v := _) rfl (by rfl) (by kernel_rfl) (by kernel_rfl) (by kernel_rfl) hcl1 (fun _ _ _ h => h) (Or.inl ⟨by rfl, fun w _ => ?hy2⟩) (fun _ => hHeld) (fun hcl2 => ?ry2)
      case hy2 => (simp only [List.getElem_toArray, List.getElem_cons_succ, List.getElem_cons_zero]; first | (go_simp; with_reducible rfl) | (go_simp; done) | rfl)
      simp only [List.getElem_toArray, List.getElem_cons_succ, List.getElem_cons_zero, Act.put, List.setIfInBounds_toArray, List.set_cons_zero, List.set_cons_succ]
      -- 2: Op.fieldAddr 57 (Operand.tmp 35) 0
      refine' anyZ_pure (i := 2) (v := _) rfl (by rfl) (by kernel_rfl) (by kernel_rfl) (by kernel_rfl) hcl2 (fun _ _ _ h => h) (Or.inl ⟨by rfl, fun w _ => ?hy3⟩) (fun _ => hHeld) (fun hcl3 => ?ry3)
      case hy3 => (simp only [List.getElem_toArray, List.getElem_cons_succ, List.getElem_cons_zero]; first | (go_simp; with_reducible rfl) | (go_simp; done) | rfl)
      simp only [List.getElem_toArray, List.getElem_cons_succ, List.getElem_cons_zero, Act.put, List.setIfInBounds_toArray, List.set_cons_zero, List.set_cons_succ]
      -- 3: Op.load 25 (Operand.tmp 36)
      refine' anyZ_take (i := 3) (v := _) rfl (by rfl) (by kernel_rfl) (by kernel_rfl) (by kernel_rfl) hcl3 13 (by kernel_rfl) (by kernel_rfl) (fun _ _ _ h => h) (Or.inl ⟨by rfl, fun w hSw => ?hy4⟩) hHeld (fun hcl4 => ?ry4)
      case hy4 => (simp only [List.getElem_toArray, List.getElem_cons_succ, List.getElem_cons_zero]; obtain ⟨hS1, hS2, hS3, hS4, hS5, hS6, hS7, hS8⟩ := hSw; first | (go_simp; with_reducible rfl) | (go_simp; done) | rfl)
      simp only [List.getElem_toArray, List.getElem_cons_succ, List.getElem_cons_zero, Act.put, List.setIfInBounds_toArray, List.set_cons_zero, List.set_cons_succ]
      -- 4: Op.move (Operand.tmp 1)
      refine' anyZ_pure (i := 4) (v := _) rfl (by rfl) (by kernel_rfl) (by kernel_rfl) (by kernel_rfl) hcl4 (fun _ _ _ h => h) (Or.inl ⟨by rfl, fun w _ => ?hy5⟩) (fun _ => hHeld) (fun hcl5 => ?ry5)
      case hy5 => (simp only [List.getElem_toArray, List.getElem_cons_succ, List.getElem_cons_zero]; first | (go_simp; with_reducible rfl) | (go_simp; done) | rfl)
      simp only [List.getElem_toArray, List.getElem_cons_succ, List.getElem_cons_zero, Act.put, List.setIfInBounds_toArray, List.set_cons_zero, List.set_cons_succ]
      -- 5: Op.nilCheck (Operand.tmp 38)
      refine' anyZ_pure (i := 5) (v := _) rfl (by rfl) (by kernel_rfl) (by kernel_rfl) (by kernel_rfl) hcl5 (fun _ _ _ h => h) (Or.inl ⟨by rfl, fun w _ => ?hy6⟩) (fun _ => hHeld) (fun hcl6 => ?ry6)
      case hy6 => (simp only [List.getElem_toArray, List.getElem_cons_succ, List.getElem_cons_zero]; first | (go_simp; with_reducible rfl) | (go_simp; done) | rfl)
      simp only [List.getElem_toArray, List.getElem_cons_succ, List.getElem_cons_zero, Act.put, List.setIfInBounds_toArray, List.set_cons_zero, List.set_cons_succ]
      -- 6: Op.fieldAddr 74 (Operand.tmp 39) 4
      refine' anyZ_pure (i := 6) (v := _) rfl (by rfl) (by kernel_rfl) (by kernel_rfl) (by kernel_rfl) hcl6 (fun _ _ _ h => h) (Or.inl ⟨by rfl, fun w _ => ?hy7⟩) (fun _ => hHeld) (fun hcl7 => ?ry7)
      case hy7 => (simp only [List.getElem_toArray, List.getElem_cons_succ, List.getElem_cons_zero]; first | (go_simp; with_reducible rfl) | (go_simp; done) | rfl)
      simp only [List.getElem_toArray, List.getElem_cons_succ, List.getElem_cons_zero, Act.put, List.setIfInBounds_toArray, List.set_cons_zero, List.set_cons_succ]
      -- 7: Op.load 30 (Operand.tmp 40)
      refine' anyZ_take (i := 7) (v := _) rfl (by rfl) (by kernel_rfl) (by kernel_rfl) (by kernel_rfl) hcl7 13 (by kernel_rfl) (by kernel_rfl) (fun _ _ _ h => h) (Or.inl ⟨by rfl, fun w hSw => ?hy8⟩) hHeld (fun hcl8 => ?ry8)
      case hy8 => (simp only [List.getElem_toArray, List.getElem_cons_succ, List.getElem_cons_zero]; obtain ⟨hS1, hS2, hS3, hS4, hS5, hS6, hS7, hS8⟩ := hSw; first | (go_simp; with_reducible rfl) | (go_simp; done) | rfl)
      simp only [List.getElem_toArray, List.getElem_cons_succ, List.getElem_cons_zero, Act.put, List.setIfInBounds_toArray, List.set_cons_zero, List.set_cons_succ]
      -- 8: Op.move (Operand.tmp 1)
      refine' anyZ_pure (i := 8) (v := _) rfl (by rfl) (by kernel_rfl) (by kernel_rfl) (by kernel_rfl) hcl8 (fun _ _ _ h => h) (Or.inl ⟨by rfl, fun w _ => ?hy9⟩) (fun _ => hHeld) (fun hcl9 => ?ry9)
      case hy9 => (simp only [List.getElem_toArray, List.getElem_cons_succ, List.getElem_cons_zero]; first | (go_simp; with_reducible rfl) | (go_simp; done) | rfl)
      simp only [List.getElem_toArray, List.getElem_cons_succ, List.getElem_cons_zero, Act.put, List.setIfInBounds_toArray, List.set_cons_zero, List.set_cons_succ]
      -- 9: Op.nilCheck (Operand.tmp 42)
      refine' anyZ_pure (i := 9) (v := _) rfl (by rfl) (by kernel_rfl) (by kernel_rfl) (by kernel_rfl) hcl9 (fun _ _ _ h => h) (Or.inl ⟨by rfl, fun w _ => ?hy10⟩) (fun _ => hHeld) (fun hcl10 => ?ry10)
      case hy10 => (simp only [List.getElem_toArray, List.getElem_cons_succ, List.getElem_cons_zero]; first | (go_simp; with_reducible rfl) | (go_simp; done) | rfl)
      simp only [List.getElem_toArray, List.getElem_cons_succ, List.getElem_cons_zero, Act.put, List.setIfInBounds_toArray, List.set_cons_zero, List.set_cons_succ]
      -- 10: Op.fieldAddr 74 (Operand.tmp 43) 0
      refine' anyZ_pure (i := 10) (v := _) rfl (by rfl) (by kernel_rfl) (by kernel_rfl) (by kernel_rfl) hcl10 (fun _ _ _ h => h) (Or.inl ⟨by rfl, fun w _ => ?hy11⟩) (fun _ => hHeld) (fun hcl11 => ?ry11)
      case hy11 => (simp only [List.getElem_toArray, List.getElem_cons_succ, List.getElem_cons_zero]; first | (go_simp; with_reducible rfl) | (go_simp; done) | rfl)
      simp only [List.getElem_toArray, List.getElem_cons_succ, List.getElem_cons_zero, Act.put, List.setIfInBounds_toArray, List.set_cons_zero, List.set_cons_succ]
      -- 11: Op.load 38 (Operand.tmp 44)
      refine' anyZ_take (i := 11) (v := _) rfl (by rfl) (by kernel_rfl) (by kernel_rfl) (by kernel_rfl) hcl11 13 (by kernel_rfl) (by kernel_rfl) (fun _ _ _ h => h) (Or.inl ⟨by rfl, fun w hSw => ?hy12⟩) hHeld (fun hcl12 => ?ry12)
      case hy12 => (simp only [List.getElem_toArray, List.getElem_cons_succ, List.getElem_cons_zero]; obtain ⟨hS1, hS2, hS3, hS4, hS5, hS6, hS7, hS8⟩ := hSw; first | (go_simp; with_reducible rfl) | (go_simp; done) | rfl)
      simp only [List.getElem_toArray, List.getElem_cons_succ, List.getElem_cons_zero, Act.put, List.setIfInBounds_toArray, List.set_cons_zero, List.set_cons_succ]
      clear hHeld
      refine anyZ_chain_at (by kernel_rfl) ?_
      simp only [List.drop_succ_cons, List.drop_zero]
      clear HSB
      generalize wr.drew = w6 at *
      go_wp2_with fail
      refine (arput_far ga ba l' (I t.lab) (NdVal (Nm.ndOf I R t) v) (Nm.ndOf I R t) w6 (fun q => Q q ∧ v.ownBlock ≠ some q) HLM.out.far (fun q hq => ⟨HQ.out q (Nat.le_trans HON.out.size hq), fun e => by have h1 := (HOV.out.lt q e).2; omega⟩) HLM.out.ar HNd.out HOKT.out.2.1 HOKT.out.1 hln2).mono ?_
      rintro e w7 ⟨rfl, ha7, ho7, hf7⟩
      have HLM7 : Hid (LayM gm N0 L I R ga ba n mf mm cv uv sv w7 K' (Nm.layT I R l t) Q) := Lib.hid (by
        rw [HRES.out, ← HLE.out]
        have hl := HLM.out.low
        obtain ⟨vl, h1, -⟩ := HLM.out.ar.ex
        obtain ⟨es, c, hobj⟩ := h1.isMap
        exact ⟨HLM.out.mem.only ho7 (fun k hk e => by have e : k = ba := e; omega), ha7, hf7.mono fun q hq => hq.1, HLM.out.box.only ho7 (fun e => by
          have h2 := HLM.out.box
          unfold BoxM at h2
          rw [show gm = ba from e, hobj] at h2
          cases h2), hl⟩)
      have HON7 : Hid (Only w w7 (fun k => k = ba ∨ Lb t.nodes k)) := Lib.hid (HON.out.trans ho7 fun i _ e => .inl e)
      clear ha7 ho7 hf7 HLM
      go_wp2_with fail
      refine bodyPost_end (results_none rfl _ _ _) rfl ?_
      exact ⟨rfl, K', HLM7.out, HKO.out, HON7.out⟩
theorem lay_any (gm N0 : Nat) (L : List (LT Nat)) (I R : Nat → Nat) (ga ba n : Nat) (mf mm cv uv sv : Value) (hok : LayOk L I R) : ∀ (c : Nat) (t : LT Nat), t.count ≤ c → LaySays gm N0 L I R ga ba n mf mm cv uv sv t
  | 0, t, h => by rw [LT.count_kids t] at h; omega
  | c + 1, t, h => lay_walk gm N0 L I R ga ba n mf mm cv uv sv hok t fun k hk => lay_any gm N0 L I R ga ba n mf mm cv uv sv hok c k (by have := LT.count_kid hk; have := LT.count_kids t; omega)
end Go.Proofs.YtljdphpbalioaaaGreatDoor
