/- A node that is being built, with all that stands around it. No walk. -/
import Derived.Test.YtljdphpbalioaaaGreatDoorGrF
namespace Go.Proofs.YtljdphpbalioaaaGreatDoor
open Go.RowKit

/-- the two captured cells: the node's, the parser's -/
def Caps (w : World) (bt bp gt g : Nat) : Prop := w.cell? ⟨bt, 0, none⟩ = some (.pointer (some ⟨gt, 0, none⟩)) ∧ w.cell? ⟨bp, 0, none⟩ = some (.pointer (some ⟨g, 0, none⟩))
theorem cell_only {w w' : World} {q : Nat} {u : Value} {S : Nat → Prop} (hu : w.cell? ⟨q, 0, none⟩ = some u) (ho : Only w w' S) (hq : ¬ S q) : w'.cell? ⟨q, 0, none⟩ = some u := by
  have h1 := ho.block q (block_lt_of_cell hu) hq
  unfold World.cell? at hu ⊢
  rw [h1]
  exact hu
theorem Caps.only {w w' : World} {bt bp gt g : Nat} {S : Nat → Prop} (h : Caps w bt bp gt g) (ho : Only w w' S) (h1 : ¬ S bt) (h2 : ¬ S bp) : Caps w' bt bp gt g := ⟨cell_only h.1 ho h1, cell_only h.2 ho h2⟩
theorem PAt.only {w w' : World} {g : Nat} {ta : Option Addr} {tc : Nat} {ts : List Tok} {s : PS} {S : Nat → Prop} (h : PAt w g ta tc ts s) (ho : Only w w' S) (hg : ¬ S g) (hta : ∀ q, ta = some ⟨q, 0, none⟩ → ¬ S q) : PAt w' g ta tc ts s :=
  ⟨(ho.block g (Array.getElem?_eq_some_iff.1 h.row).1 hg).trans h.row, h.toks.only ho fun _ hk q hq e => hta q hq (e ▸ hk), h.cap, h.few, h.ne⟩
theorem Tb.only {w w' : World} {B : Nat} {S : Nat → Prop} (h : Tb B w) (ho : Only w w' S) (hB : B ≤ w.heap.size) (hs : ∀ k, S k → B ≤ k) : Tb B w' := h.below (ho.below B hB fun i hi hk => by have := hs i hk; omega)
theorem PAt.bad {w : World} {g : Nat} {ta : Option Addr} {tc : Nat} {ts : List Tok} {s : PS} (h : PAt w g ta tc ts s) (b : Bool) : PAt (w.setCell ⟨g, 3, none⟩ (.bool b)) g ta tc ts ⟨s.pos, s.deep, b⟩ :=
  ⟨heap_setCell_same w g 3 _ _ _ h.row, h.toks.only (Only.setCell w ⟨g, 3, none⟩ _) fun k hk q hq => by rw [show k = g from hk]; exact h.ne q hq, h.cap, h.few, h.ne⟩

/-- an append to a row of one's own, by hand -/
theorem wp_app' {P : Program} {w : World} {o : Oper} {a : Act} {K : Act → World → Prop} {Q : Exit → Act → World → Prop} (s x : Operand)
    (t e size bytes : Nat) (T : RowTy P t e size bytes) (ho : o.op = .call { callee := .builtin .append, args := #[s, x], argTypes := #[t, t] })
    (base : Nat) (v : Value) (n : Nat) (xs : List Value) (hs : a.eval s = v) (hown : w.ownsRow base e size v n xs)
    (ad : Addr) (m c : Nat) (news : List Value) (hx : a.eval x = .slice (some ad) m c) (hl : news.length = m * size) (hnews : ∀ j u, news[j]? = some u → w.cell? (ad.add j) = some u) (h1 : ∀ u ∈ news, u.oneCell' = true)
    (h63 : n + m ≤ maxLen) (hbytes : (n + m) * bytes ≤ 140737488355328) (hbase : base ≤ w.heap.size)
    (h : ∀ v' w', w'.ownsRow base e size v' (n + m) (xs ++ news) → w.grownBy w' v.ownBlock → Stays w v v' → K (a.put o.dst v') w') : o.wp P a w K Q := by
  obtain ⟨i, z, hi, hz, hsz, hby, hzs⟩ := T.ex
  obtain ⟨v', w', hr, h2, h3, h4⟩ := run_append_own' (P := P) (w := w) base t o.type e i z size bytes T.ht hi hz hsz hby hzs T.pos v n xs hown ad m c news hl hnews h1 h63 hbytes hbase
  have hr : (execOp a.eval o).run P w = .ok (.value v') w' := by
    unfold execOp
    simp only [ho, resolve, invoke, builtin, Sem.run_bind, Sem.run_pure, Result.andThen_ok, List.map_toArray, List.map_cons, List.map_nil, hs, hx, hr]
  unfold Oper.wp
  rw [hr]
  exact h v' w' h2 h3 h4

structure NS (I : World → Prop) (w0 w : World) (g : Nat) (ta : Option Addr) (tc : Nat) (ts : List Tok) (B : Nat) (s : PS) (D gt k : Nat) (name : List UInt8) (num : Int) (typ : Nat) (mod tgt : List UInt8) (kids : List Tr) (bs : List Nat) (pv : List Value) (pt : List Tr) (pb : List Nat) : Prop where
  pat : PAt w g ta tc ts s
  tb : Tb B w
  only : Only w0 w (fun k => k = g)
  op : OpenAt w D gt k name num typ mod tgt kids bs
  pend : KidsAt w pv pt pb
  once : (gt :: (bs ++ pb)).Nodup
  new : ∀ b ∈ gt :: (bs ++ pb), D ≤ b ∧ b < w.heap.size
  inv : ∀ w', Only w w' (fun k => k = g ∨ k ∈ gt :: (bs ++ pb)) → I w'
  low : B ≤ g ∧ g < D ∧ w0.heap.size ≤ D ∧ B ≤ w0.heap.size
  hta : ∀ q, ta = some ⟨q, 0, none⟩ → q < D

section
variable {I J : World → Prop} {w0 w w' : World} {g : Nat} {ta : Option Addr} {tc : Nat} {ts : List Tok} {B : Nat} {s s' : PS} {D gt k typ : Nat} {name mod tgt : List UInt8} {num : Int} {kids : List Tr} {bs : List Nat} {pv : List Value} {pt : List Tr} {pb : List Nat}

theorem NS.call (h : NS I w0 w g ta tc ts B s D gt k name num typ mod tgt kids bs pv pt pb) (hp : PAt w' g ta tc ts s') (ho : Only w w' (fun k => k = g)) : NS I w0 w' g ta tc ts B s' D gt k name num typ mod tgt kids bs pv pt pb := by
  have hl := h.low
  have hB : B ≤ w.heap.size := Nat.le_trans hl.2.2.2 h.only.size
  refine ⟨hp, h.tb.only ho hB (fun k hk => by have : k = g := hk; omega), h.only.trans ho fun _ _ h => h, h.op.only ho (fun b hb e => ?_), KidsAt.only ho _ _ _ h.pend (fun b hb e => ?_), h.once, fun b hb => ⟨(h.new b hb).1, Nat.lt_of_lt_of_le (h.new b hb).2 ho.size⟩, fun w2 h2 => h.inv w2 (ho.mono (fun _ _ h => .inl h) |>.trans h2 fun _ _ h => h), h.low, h.hta⟩
  · have h1 := h.op.new b hb
    have h2 : b = g := e
    omega
  · have h1 := h.new b (List.mem_cons_of_mem _ (List.mem_append_right _ hb))
    have h2 : b = g := e
    omega
theorem NS.below (h : NS I w0 w g ta tc ts B s D gt k name num typ mod tgt kids bs pv pt pb) (hb : Below w.heap.size w w') : NS I w0 w' g ta tc ts B s D gt k name num typ mod tgt kids bs pv pt pb :=
  h.call (h.pat.below hb) (Only.of_below hb _)
theorem NS.turned (h : NS I w0 w g ta tc ts B s D gt k name num typ mod tgt kids bs pv pt pb) (hb : Below w.heap.size w w') (hj : ∀ w2, Only w' w2 (fun k => k = g ∨ k ∈ gt :: (bs ++ pb)) → J w2) : NS J w0 w' g ta tc ts B s D gt k name num typ mod tgt kids bs pv pt pb := by
  have h1 := h.below hb
  exact ⟨h1.pat, h1.tb, h1.only, h1.op, h1.pend, h1.once, h1.new, hj, h1.low, h1.hta⟩
theorem NS.holds (h : NS I w0 w g ta tc ts B s D gt k name num typ mod tgt kids bs pv pt pb) : I w := h.inv w (Only.refl _ _)
/-- a call that has made a tree -/
theorem NS.got {v : Value} {t : Tr} {b2 : List Nat} (h : NS I w0 w g ta tc ts B s D gt k name num typ mod tgt kids bs pv pt pb) (hp : PAt w' g ta tc ts s') (ho : Only w w' (fun k => k = g)) (hd : DoneAt w' w.heap.size v t b2) : NS I w0 w' g ta tc ts B s' D gt k name num typ mod tgt kids bs (pv ++ [v]) (pt ++ [t]) (pb ++ b2) := by
  have h1 := h.call hp ho
  have hsz : D ≤ w.heap.size := by
    have := (h.new gt (List.mem_cons_self ..))
    omega
  refine ⟨h1.pat, h1.tb, h1.only, h1.op, h1.pend.snoc hd.at', ?_, fun b hb => ?_, fun w2 h2 => ?_, h1.low, h1.hta⟩
  · rw [← List.append_assoc, ← List.cons_append]
    refine List.nodup_append.2 ⟨h1.once, hd.once, fun x hx y hy e => ?_⟩
    have h2 := (h.new x hx).2
    have h3 := (hd.new y hy).1
    omega
  · rw [← List.append_assoc, ← List.cons_append] at hb
    rcases List.mem_append.1 hb with hb | hb
    · exact h1.new b hb
    · have := hd.new b hb
      exact ⟨by omega, this.2⟩
  · refine h.inv w2 ((ho.mono (T := fun k => k = g ∨ k ∈ gt :: (bs ++ pb)) (fun _ _ h => .inl h)).trans h2 fun i hi hk => ?_)
    rcases hk with hk | hk
    · exact .inl hk
    · rw [← List.append_assoc, ← List.cons_append] at hk
      rcases List.mem_append.1 hk with hk | hk
      · exact .inr hk
      · have := (hd.new i hk).1
        omega
/-- a store into the node's box -/
theorem NS.field {k' typ' : Nat} {name' mod' tgt' : List UInt8} {num' : Int} (h : NS I w0 w g ta tc ts B s D gt k name num typ mod tgt kids bs pv pt pb) (i : Nat) (u : Value)
    (hrow : ∀ kv, (boxRow k name num typ 0 (.slice none 0 0) mod tgt kv 0).setIfInBounds i u = boxRow k' name' num' typ' 0 (.slice none 0 0) mod' tgt' kv 0) :
    NS I w0 (w.setCell ⟨gt, i, none⟩ u) g ta tc ts B s D gt k' name' num' typ' mod' tgt' kids bs pv pt pb := by
  have hl := h.low
  have hgt := h.new gt (List.mem_cons_self ..)
  have hB : B ≤ w.heap.size := Nat.le_trans hl.2.2.2 h.only.size
  have ho : Only w (w.setCell ⟨gt, i, none⟩ u) (fun k => k = gt) := Only.setCell w ⟨gt, i, none⟩ u
  have hnd := (List.nodup_cons.1 h.once).1
  refine ⟨h.pat.only ho (fun e => by omega) (fun q hq e => by have := h.hta q hq; omega), h.tb.only ho hB (fun k hk => by have : k = gt := hk; omega), h.only.trans ho (fun j hj e => by have : j = gt := e; omega), h.op.field i u hrow, KidsAt.only ho _ _ _ h.pend (fun b hb e => hnd ?_), h.once, fun b hb => ⟨(h.new b hb).1, Nat.lt_of_lt_of_le (h.new b hb).2 ho.size⟩, fun w2 h2 => h.inv w2 ((ho.mono (T := fun k => k = g ∨ k ∈ gt :: (bs ++ pb)) (fun _ _ e => .inr (by rw [e]; exact List.mem_cons_self ..))).trans h2 fun _ _ h => h), h.low, h.hta⟩
  rw [← show b = gt from e]
  exact List.mem_append_right _ hb
theorem NS.kind (h : NS I w0 w g ta tc ts B s D gt k name num typ mod tgt kids bs pv pt pb) (k' : Nat) : NS I w0 (w.setCell ⟨gt, 0, none⟩ (.int .u8 k')) g ta tc ts B s D gt k' name num typ mod tgt kids bs pv pt pb := h.field 0 _ fun _ => rfl
theorem NS.named (h : NS I w0 w g ta tc ts B s D gt k name num typ mod tgt kids bs pv pt pb) (n' : List UInt8) : NS I w0 (w.setCell ⟨gt, 1, none⟩ (.string (mk8 n'))) g ta tc ts B s D gt k n' num typ mod tgt kids bs pv pt pb := h.field 1 _ fun _ => rfl
theorem NS.numb (h : NS I w0 w g ta tc ts B s D gt k name num typ mod tgt kids bs pv pt pb) (n' : Int) : NS I w0 (w.setCell ⟨gt, 2, none⟩ (.int .i64 n')) g ta tc ts B s D gt k name n' typ mod tgt kids bs pv pt pb := h.field 2 _ fun _ => rfl
theorem NS.typed (h : NS I w0 w g ta tc ts B s D gt k name num typ mod tgt kids bs pv pt pb) (t' : Nat) : NS I w0 (w.setCell ⟨gt, 3, none⟩ (.int .u8 t')) g ta tc ts B s D gt k name num t' mod tgt kids bs pv pt pb := h.field 3 _ fun _ => rfl
theorem NS.target (h : NS I w0 w g ta tc ts B s D gt k name num typ mod tgt kids bs pv pt pb) (t' : List UInt8) : NS I w0 (w.setCell ⟨gt, 7, none⟩ (.string (mk8 t'))) g ta tc ts B s D gt k name num typ mod t' kids bs pv pt pb := h.field 7 _ fun _ => rfl
/-- the node's box, for the walk -/
theorem NS.box (h : NS I w0 w g ta tc ts B s D gt k name num typ mod tgt kids bs pv pt pb) : ∃ kv ps, w.heap[gt]? = some (.cells (boxRow k name num typ 0 (.slice none 0 0) mod tgt kv 0) 75 (0, 0)) ∧ OwnPtrs D w kv ps ∧ ps.length = kids.length := by
  obtain ⟨⟨kv, ps, bss, h1, h2, h3, h4⟩, -⟩ := h.op
  exact ⟨kv, ps, h1, h2, h4.len⟩
/-- what waits becomes the node's kids: a row that has just been laid -/
theorem NS.rowed (h : NS I w0 w g ta tc ts B s D gt k name num typ mod tgt [] [] pv pt pb) (n : Nat) (hn : pv.length = n) (hm : n ≤ maxLen) :
    NS I w0 ((w.alloc (.cells pv.toArray 47)).setCell ⟨gt, 8, none⟩ (.slice (some ⟨w.heap.size, 0, none⟩) n n)) g ta tc ts B s D gt k name num typ mod tgt pt (w.heap.size :: pb) [] [] [] := by
  subst hn
  have hl := h.low
  have hgt := h.new gt (List.mem_cons_self ..)
  have hB : B ≤ w.heap.size := Nat.le_trans hl.2.2.2 h.only.size
  have hb := bal (bre w) (.cells pv.toArray 47)
  have h1 := h.below hb
  have hown := ptrs_lit w D (by omega) pv hm
  have hsz : (w.alloc (.cells pv.toArray 47)).heap.size = w.heap.size + 1 := by simp
  have hone : (gt :: w.heap.size :: pb).Nodup := by
    have h2 : (gt :: pb).Nodup := h.once
    have h3 := List.nodup_cons.1 h2
    refine List.nodup_cons.2 ⟨fun hm => ?_, List.nodup_cons.2 ⟨fun hm => ?_, h3.2⟩⟩
    · rcases List.mem_cons.1 hm with h4 | h4
      · omega
      · exact h3.1 h4
    · have := (h.new w.heap.size (List.mem_cons_of_mem _ hm)).2
      omega
  have hnew : ∀ b ∈ w.heap.size :: pb, D ≤ b ∧ b < (w.alloc (.cells pv.toArray 47)).heap.size := fun b hb => by
    rcases List.mem_cons.1 hb with rfl | hb
    · exact ⟨by omega, by omega⟩
    · have := h.new b (List.mem_cons_of_mem _ hb)
      exact ⟨this.1, by omega⟩
  have hop := h1.op.kids hown h1.pend hone hnew
  have ho : Only (w.alloc (.cells pv.toArray 47)) ((w.alloc (.cells pv.toArray 47)).setCell ⟨gt, 8, none⟩ (.slice (some ⟨w.heap.size, 0, none⟩) pv.length pv.length)) (fun k => k = gt) := Only.setCell _ ⟨gt, 8, none⟩ _
  refine ⟨h1.pat.only ho (fun e => by omega) (fun q hq e => by have := h.hta q hq; omega), h1.tb.only ho (by omega) (fun k hk => by have : k = gt := hk; omega), h1.only.trans ho (fun j hj e => by have : j = gt := e; omega), hop, by simp [KidsAt], by rw [List.append_nil]; exact hone, fun b hb => ?_, fun w2 h2 => ?_, h.low, h.hta⟩
  · have hs2 := ho.size
    rw [List.append_nil] at hb
    rcases List.mem_cons.1 hb with rfl | hb
    · exact ⟨hgt.1, by omega⟩
    · have := hnew b hb
      exact ⟨this.1, by omega⟩
  · refine h.inv w2 (((Only.of_below hb (fun k => k = g ∨ k ∈ gt :: ([] ++ pb))).trans ho fun _ _ e => .inr (by rw [e]; exact List.mem_cons_self ..)).trans h2 fun i hi hk => ?_)
    rcases hk with hk | hk
    · exact .inl hk
    · rw [List.append_nil] at hk
      rcases List.mem_cons.1 hk with hk | hk
      · rw [hk]; exact .inr (List.mem_cons_self ..)
      · rcases List.mem_cons.1 hk with hk | hk
        · omega
        · exact .inr (List.mem_cons_of_mem _ hk)
/-- what waits is one kid more: behind an append -/
theorem NS.app {v kv : Value} {t : Tr} (h : NS I w0 w g ta tc ts B s D gt k name num typ mod tgt kids bs [v] [t] pb) (hrow : w.heap[gt]? = some (.cells (boxRow k name num typ 0 (.slice none 0 0) mod tgt kv 0) 75 (0, 0))) :
    ∃ ps, OwnPtrs D w kv ps ∧ ps.length = kids.length ∧ (¬ kv.ownBlock = some gt) ∧ (∀ w', w.grownBy w' kv.ownBlock → I w') ∧ ∀ w' kv', w.grownBy w' kv.ownBlock → Stays w kv kv' → OwnPtrs D w' kv' (ps ++ [v]) → ∃ bs', NS I w0 (w'.setCell ⟨gt, 8, none⟩ kv') g ta tc ts B s D gt k name num typ mod tgt (kids ++ [t]) bs' [] [] [] := by
  have hl := h.low
  have hgt := h.new gt (List.mem_cons_self ..)
  have hB : B ≤ w.heap.size := Nat.le_trans hl.2.2.2 h.only.size
  obtain ⟨⟨kv0, ps, bss, h1, h2, rfl, h4⟩, h5, h6⟩ := h.op
  have e1 : kv0 = kv := by
    rw [h1] at hrow
    have := Option.some.inj hrow
    simp only [boxRow] at this
    injection this with this
    have := congrArg Array.toList this
    simp at this
    exact this
  subst e1
  refine ⟨ps, h2, h4.len, fun e => (List.nodup_cons.1 h.once).1 (List.mem_append_left _ (List.mem_append_left _ (mem_rowB.2 e))), fun w' hg => h.inv w' ((Only.of_grown hg).mono fun k _ hk => .inr (List.mem_cons_of_mem _ (List.mem_append_left _ (List.mem_append_left _ (mem_rowB.2 hk))))), fun w' kv' hg hst hp => ?_⟩
  have hon : Only w w' (fun k => k ∈ rowB kv0) := (Only.of_grown hg).mono fun _ _ e => mem_rowB.2 e
  have hlow : ∀ q ∈ rowB kv0, D ≤ q ∧ q < w.heap.size := fun q hq => h.new q (List.mem_cons_of_mem _ (List.mem_append_left _ (List.mem_append_left _ hq)))
  have honce : (gt :: (rowB kv0 ++ bss ++ pb)).Nodup := h.once
  have hnd := List.nodup_cons.1 honce
  have hgtr : ¬ gt ∈ rowB kv0 := fun e => hnd.1 (List.mem_append_left _ (List.mem_append_left _ e))
  have hnd2 := List.nodup_append.1 (by rw [List.append_assoc] at hnd; exact hnd.2)
  have hks' := KidsAt.only hon _ _ _ h4 (fun b hb e => hnd2.2.2 b e b (List.mem_append_left _ hb) rfl)
  have hpend' := KidsAt.only hon _ _ _ h.pend (fun b hb e => hnd2.2.2 b e b (List.mem_append_right _ hb) rfl)
  have hrow' := (hon.block gt hgt.2 hgtr).trans h1
  have ht : TrAt w' v t pb := by
    simp only [KidsAt] at hpend'
    obtain ⟨p, r, b1, b2, e1, rfl, h7, h8, rfl⟩ := hpend'
    cases e1
    rw [List.append_nil]
    exact h7
  have hrb : ∀ q ∈ rowB kv', q ∈ rowB kv0 ∨ w.heap.size ≤ q := fun q hq => by
    rcases hst with e | e
    · rw [mem_rowB, e] at hq
      exact .inl (mem_rowB.2 hq)
    · exact .inr (e q (mem_rowB.1 hq))
  have hrlt : ∀ q ∈ rowB kv', D ≤ q ∧ q < w'.heap.size := fun q hq => hp.lt q (mem_rowB.1 hq)
  have hrone : (rowB kv').Nodup := by
    unfold rowB
    split
    · simp
    · simp
  have hone : (gt :: (rowB kv' ++ (bss ++ pb))).Nodup := by
    refine List.nodup_cons.2 ⟨fun e => ?_, List.nodup_append.2 ⟨hrone, hnd2.2.1, fun x hx y hy e => ?_⟩⟩
    · rcases List.mem_append.1 e with e | e
      · rcases hrb gt e with e | e
        · exact hgtr e
        · omega
      · exact hnd.1 (by rw [List.append_assoc]; exact List.mem_append_right _ e)
    · rcases hrb x hx with h7 | h7
      · exact hnd2.2.2 x h7 y hy e
      · have := (h.new y (List.mem_cons_of_mem _ (by rw [List.append_assoc]; exact List.mem_append_right _ hy))).2
        omega
  have hnew : ∀ b ∈ gt :: (rowB kv' ++ (bss ++ pb)), D ≤ b ∧ b < w'.heap.size := fun b hb => by
    rcases List.mem_cons.1 hb with rfl | hb
    · exact ⟨hgt.1, Nat.lt_of_lt_of_le hgt.2 hon.size⟩
    · rcases List.mem_append.1 hb with hb | hb
      · exact hrlt b hb
      · have := h.new b (List.mem_cons_of_mem _ (by rw [List.append_assoc]; exact List.mem_append_right _ hb))
        exact ⟨this.1, Nat.lt_of_lt_of_le this.2 hon.size⟩
  have hop := OpenAt.more hrow' hks' ht hp hone hnew
  have ho : Only w' (w'.setCell ⟨gt, 8, none⟩ kv') (fun k => k = gt) := Only.setCell _ ⟨gt, 8, none⟩ _
  have hboth : Only w (w'.setCell ⟨gt, 8, none⟩ kv') (fun k => k ∈ gt :: rowB kv0) := (hon.mono fun _ _ h => List.mem_cons_of_mem _ h).trans ho fun _ _ e => by rw [e]; exact List.mem_cons_self ..
  have hbig : ∀ k, k ∈ gt :: rowB kv0 → D ≤ k := fun k hk => by
    rcases List.mem_cons.1 hk with rfl | hk
    · exact hgt.1
    · exact (hlow k hk).1
  refine ⟨_, h.pat.only hboth (fun e => by have := hbig _ e; omega) (fun q hq e => by have := h.hta q hq; have := hbig _ e; omega), h.tb.only hboth hB (fun k hk => by have := hbig _ hk; omega), h.only.trans hboth (fun j hj e => by have := hbig _ e; omega), hop, by simp [KidsAt], by rw [List.append_nil]; exact hone, fun b hb => ?_, fun w2 h2 => ?_, h.low, h.hta⟩
  · rw [List.append_nil] at hb
    exact ⟨(hnew b hb).1, Nat.lt_of_lt_of_le (hnew b hb).2 ho.size⟩
  · refine h.inv w2 ((hboth.mono (T := fun k => k = g ∨ k ∈ gt :: (rowB kv0 ++ bss ++ pb)) fun i _ hk => .inr ?_).trans h2 fun i hi hk => ?_)
    · rcases List.mem_cons.1 hk with rfl | hk
      · exact List.mem_cons_self ..
      · exact List.mem_cons_of_mem _ (List.mem_append_left _ (List.mem_append_left _ hk))
    · rcases hk with hk | hk
      · exact .inl hk
      · rw [List.append_nil] at hk
        rcases List.mem_cons.1 hk with rfl | hk
        · exact .inr (List.mem_cons_self ..)
        · rcases List.mem_append.1 hk with hk | hk
          · rcases hrb i hk with h7 | h7
            · exact .inr (List.mem_cons_of_mem _ (List.mem_append_left _ (List.mem_append_left _ h7)))
            · omega
          · exact .inr (List.mem_cons_of_mem _ (by rw [List.append_assoc]; exact List.mem_append_right _ hk))
/-- the node is done -/
theorem NS.done (h : NS I w0 w g ta tc ts B s D gt k name num typ mod tgt kids bs [] [] []) : DoneAt w D (.pointer (some ⟨gt, 0, none⟩)) (.mk k name num typ mod tgt kids) (gt :: bs) := h.op.done
/-- a node of one's own, just boxed -/
theorem NS.first (hp : PAt w g ta tc ts s) (htb : Tb B w) (ho : Only w0 w (fun k => k = g)) (hl : B ≤ g ∧ g < w0.heap.size ∧ B ≤ w0.heap.size) (hta : ∀ q, ta = some ⟨q, 0, none⟩ → q < w0.heap.size) (k : Nat) (name : List UInt8) (num : Int) (typ : Nat) (mod tgt : List UInt8) :
    NS (fun _ => True) w0 (w.alloc (.cells (boxRow k name num typ 0 (.slice none 0 0) mod tgt (.slice none 0 0) 0) 75)) g ta tc ts B s w0.heap.size w.heap.size k name num typ mod tgt [] [] [] [] [] := by
  have hb := bal (bre w) (.cells (boxRow k name num typ 0 (.slice none 0 0) mod tgt (.slice none 0 0) 0) 75)
  have hsz := ho.size
  refine ⟨hp.below hb, htb.below (hb.mono (by omega)), ho.trans (Only.of_below hb _) fun _ _ h => h, OpenAt.fresh w w0.heap.size ho.size k name num typ mod tgt, by simp [KidsAt], by simp, fun b hb => ?_, fun _ _ => trivial, ⟨hl.1, hl.2.1, Nat.le_refl _, hl.2.2⟩, hta⟩
  have e : b = w.heap.size := by simpa using hb
  subst e
  exact ⟨hsz, by simp⟩
/-- another node, while this one stays open -/
def Outer (I : World → Prop) (g Db D gt k : Nat) (name : List UInt8) (num : Int) (typ : Nat) (mod tgt : List UInt8) (kids : List Tr) (bs : List Nat) (w : World) : Prop :=
  OpenAt w D gt k name num typ mod tgt kids bs ∧ ∀ w', Only w w' (fun k => k = g ∨ k ∈ gt :: bs ∨ Db ≤ k) → I w'
theorem NS.nest (h : NS I w0 w g ta tc ts B s D gt k name num typ mod tgt kids bs [] [] []) (k2 : Nat) (name2 : List UInt8) (num2 : Int) (typ2 : Nat) (mod2 tgt2 : List UInt8) :
    NS (Outer I g w.heap.size D gt k name num typ mod tgt kids bs) w0 (w.alloc (.cells (boxRow k2 name2 num2 typ2 0 (.slice none 0 0) mod2 tgt2 (.slice none 0 0) 0) 75)) g ta tc ts B s w.heap.size w.heap.size k2 name2 num2 typ2 mod2 tgt2 [] [] [] [] [] := by
  have hb := bal (bre w) (.cells (boxRow k2 name2 num2 typ2 0 (.slice none 0 0) mod2 tgt2 (.slice none 0 0) 0) 75)
  have h1 := h.below hb
  have hgt := h.new gt (List.mem_cons_self ..)
  have hl := h.low
  have hsz : (w.alloc (.cells (boxRow k2 name2 num2 typ2 0 (.slice none 0 0) mod2 tgt2 (.slice none 0 0) 0) 75)).heap.size = w.heap.size + 1 := by simp
  refine ⟨h1.pat, h1.tb, h1.only, OpenAt.fresh w w.heap.size (Nat.le_refl _) k2 name2 num2 typ2 mod2 tgt2, by simp [KidsAt], by simp, fun b hb => ?_, fun w2 h2 => ⟨h1.op.only h2 fun b hb e => ?_, fun w3 h3 => ?_⟩, ⟨hl.1, by omega, by omega, hl.2.2.2⟩, fun q hq => by have := h.hta q hq; omega⟩
  · have e : b = w.heap.size := by simpa using hb
    subst e
    exact ⟨Nat.le_refl _, by simp⟩
  · have h4 := h.op.new b hb
    rcases e with e | e
    · omega
    · have : b = w.heap.size := by simpa using e
      omega
  · refine h.inv w3 (((Only.of_below hb (fun k => k = g ∨ k ∈ gt :: (bs ++ []))).trans h2 fun i hi hk => ?_).trans h3 fun i hi hk => ?_)
    · rcases hk with hk | hk
      · exact .inl hk
      · have : i = w.heap.size := by simpa using hk
        omega
    · rw [List.append_nil]
      rcases hk with hk | hk | hk
      · exact .inl hk
      · exact .inr hk
      · omega
/-- the other one is done, and waits -/
theorem NS.unnest {Db gt2 k2 typ2 : Nat} {name2 mod2 tgt2 : List UInt8} {num2 : Int} {kids2 : List Tr} {bs2 : List Nat} (h : NS (Outer I g Db D gt k name num typ mod tgt kids bs) w0 w g ta tc ts B s Db gt2 k2 name2 num2 typ2 mod2 tgt2 kids2 bs2 [] [] []) (hD : D ≤ Db) (hgD : g < D) (hw0 : w0.heap.size ≤ D) (hta : ∀ q, ta = some ⟨q, 0, none⟩ → q < D) (hlt : ∀ b ∈ gt :: bs, b < Db) :
    NS I w0 w g ta tc ts B s D gt k name num typ mod tgt kids bs [.pointer (some ⟨gt2, 0, none⟩)] [.mk k2 name2 num2 typ2 mod2 tgt2 kids2] (gt2 :: bs2) := by
  obtain ⟨ho, hi⟩ := h.holds
  have hd := h.done
  have e0 : gt :: (bs ++ (gt2 :: bs2)) = (gt :: bs) ++ (gt2 :: bs2) := rfl
  refine ⟨h.pat, h.tb, h.only, ho, by simp only [KidsAt]; exact ⟨_, [], gt2 :: bs2, [], rfl, by simp, hd.at', rfl, rfl⟩, ?_, fun b hb => ?_, fun w2 h2 => hi w2 (h2.mono fun i _ hk => ?_), ⟨h.low.1, hgD, hw0, h.low.2.2.2⟩, hta⟩
  · rw [e0]
    refine List.nodup_append.2 ⟨ho.once, hd.once, fun x hx y hy e => ?_⟩
    have h1 := hlt x hx
    have h2 := (hd.new y hy).1
    omega
  · rw [e0] at hb
    rcases List.mem_append.1 hb with hb | hb
    · exact ho.new b hb
    · have := hd.new b hb
      exact ⟨by omega, this.2⟩
  · rcases hk with hk | hk
    · exact .inl hk
    · rw [e0] at hk
      rcases List.mem_append.1 hk with hk | hk
      · exact .inr (.inl hk)
      · exact .inr (.inr (hd.new i hk).1)
theorem NS.asks (h : NS I w0 w g ta tc ts B s D gt k name num typ mod tgt kids bs pv pt pb) : Asks w g ta tc ts B s := by
  have hl := h.low
  have hgt := h.new gt (List.mem_cons_self ..)
  exact ⟨h.pat, h.tb, Nat.le_trans hl.2.2.2 h.only.size, fun q hq => by have := h.hta q hq; omega, hl.1⟩
/-- a node of one's own, boxed, in a cell of its own; the parser's pointer in another -/
theorem NS.start3 (h : Asks w g ta tc ts B s) (k : Nat) (name : List UInt8) (num : Int) (typ : Nat) (mod tgt : List UInt8) :
    NS (fun w' => Caps w' (w.heap.size + 1 + 1) w.heap.size (w.heap.size + 1) g) w (((w.alloc (.cells #[.pointer (some ⟨g, 0, none⟩)] 44)).alloc (.cells (boxRow k name num typ 0 (.slice none 0 0) mod tgt (.slice none 0 0) 0) 75)).alloc (.cells #[.pointer (some ⟨w.heap.size + 1, 0, none⟩)] 47))
      g ta tc ts B s w.heap.size (w.heap.size + 1) k name num typ mod tgt [] [] [] [] [] := by
  have hg := (Array.getElem?_eq_some_iff.1 h.pat.row).1
  have hb1 := bal (bre w) (.cells #[.pointer (some ⟨g, 0, none⟩)] 44)
  have hc1 := heap_alloc_new w (.cells #[.pointer (some ⟨g, 0, none⟩)] 44)
  have hs1 : (w.alloc (.cells #[.pointer (some ⟨g, 0, none⟩)] 44)).heap.size = w.heap.size + 1 := by simp
  generalize w.alloc (.cells #[.pointer (some ⟨g, 0, none⟩)] 44) = w1 at *
  have h1 := NS.first (w0 := w) (h.pat.below hb1) (h.tb.below (hb1.mono h.low)) (Only.of_below hb1 (fun k => k = g)) ⟨h.big, hg, h.low⟩ h.hta k name num typ mod tgt
  have hb2 := bal (bre w1) (.cells (boxRow k name num typ 0 (.slice none 0 0) mod tgt (.slice none 0 0) 0) 75)
  have hs2 : (w1.alloc (.cells (boxRow k name num typ 0 (.slice none 0 0) mod tgt (.slice none 0 0) 0) 75)).heap.size = w.heap.size + 1 + 1 := by simp; omega
  rw [hs1] at h1
  generalize w1.alloc (.cells (boxRow k name num typ 0 (.slice none 0 0) mod tgt (.slice none 0 0) 0) 75) = w2 at *
  have hb4 := bal (bre w2) (.cells #[.pointer (some ⟨w.heap.size + 1, 0, none⟩)] 47)
  have hc4 := heap_alloc_new w2 (.cells #[.pointer (some ⟨w.heap.size + 1, 0, none⟩)] 47)
  rw [hs2] at hc4
  generalize w2.alloc (.cells #[.pointer (some ⟨w.heap.size + 1, 0, none⟩)] 47) = w3 at *
  refine h1.turned hb4 (fun w5 h5 => ?_)
  have hp : w3.heap[w.heap.size]? = some (.cells #[.pointer (some ⟨g, 0, none⟩)] 44 (0, 0)) := (hb4.block w.heap.size (by omega)).trans ((hb2.block w.heap.size (by omega)).trans hc1)
  exact ⟨cell_only (cell_of_row _ _ 0 _ _ _ hc4) h5 (fun e => by rcases e with e | e; · omega
                                                                 · simp at e),
    cell_only (cell_of_row _ _ 0 _ _ _ hp) h5 (fun e => by rcases e with e | e; · omega
                                                           · simp at e)⟩
end
end Go.Proofs.YtljdphpbalioaaaGreatDoor
