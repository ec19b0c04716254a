/- Walk: Walk, Drop, told. -/
import Derived.Test.YtnbncjebmlicgaaWalk
namespace Go.Proofs.Ytnbncjebmlicgaa
open Go Go.RowKit
attribute [local go_sem] Oper.semAt_some

set_option maxRecDepth 10000 in
theorem arwalk_any (p : Option Addr) (x : Nat) (w : World) :
    Calls Try.prog 39 #[.pointer p, .int .u64 x] w fun e w' => e = .returned (.func (.func 63) #[] #[.pointer (some ⟨w.heap.size + 1, 0, none⟩), .pointer (some ⟨w.heap.size, 0, none⟩)]) ∧
      w' = (w.alloc (.cells #[.pointer p] 23)).alloc (.cells #[.int .u64 x] 26) := by
  go_enter Try.func39, Try.ntmps39
  go_wp2_with fail
  go_ret
  exact ⟨rfl, rfl⟩

/-- a node's value and its kids don't mind a turn of what holds no cells -/
theorem own_putObj (B : Nat) : ∀ (x : El) (A : World) (r : Nat) (o o' : Obj), OwnNd B A x.2.2 x.2.1 → A.heap[r]? = some o → o.isCells = false → OwnNd B (A.putObj r o') x.2.2 x.2.1 := fun x A r o o' h hr ho =>
  h.only (Only.putObj A r o') fun k hk cs fr e => by subst hk; rw [hr] at e; cases e; cases ho

set_option maxRecDepth 10000 in
set_option maxHeartbeats 1600000 in
theorem told_nil (x : Nat) (most : Int) (w : World) (hx : x < 18446744073709551616) :
    Calls Try.prog 31 #[.pointer none, .int .u64 x, .int .i64 most] w fun e w' => e = .returned (.slice none 0 0) ∧ Below w.heap.size w w' := by
  refine callsIn_wide (n := 3).1 ?_
  refine callsIn_of_wp_marks Try.func31 rfl trivial ?_
  simp only [Try.ntmps31, List.size_toArray, List.length_cons, List.length_nil, Nat.reduceAdd, Nat.reduceSub, Array.replicate_succ, Array.replicate_zero, List.push_toArray, List.append_toArray, List.nil_append, List.cons_append]
  gi_wp2_with fail
  refine ⟨trivial, ?_⟩
  obtain ⟨hr0, hr1⟩ := two_new w (.cells #[.int .i64 most] 3) (.cells #[.slice none 0 0] 27)
  have hb1 := bal (bal (bre w) (.cells #[.int .i64 most] 3)) (.cells #[.slice none 0 0] 27)
  have hs1 : ((w.alloc (.cells #[.int .i64 most] 3)).alloc (.cells #[.slice none 0 0] 27)).heap.size = w.heap.size + 2 := by simp
  generalize (w.alloc (.cells #[.int .i64 most] 3)).alloc (.cells #[.slice none 0 0] 27) = W at *
  have HB1 := Lib.hid hb1
  have HR1 := Lib.hid hr1
  have HS1 := Lib.hid hs1
  refine (callsIn_wide.2 (arwalk_any none x W)).mono ?_
  rintro e W2 ⟨rfl, hW2⟩
  obtain ⟨hr2, hr3⟩ := two_new W (.cells #[.pointer none] 23) (.cells #[.int .u64 x] 26)
  have hb2 := bal (bal (bre W) (.cells #[.pointer none] 23)) (.cells #[.int .u64 x] 26)
  rw [← hW2] at hr2 hr3 hb2
  have HB2 := Lib.hid hb2
  have HR2 := Lib.hid hr2
  have HR3 := Lib.hid hr3
  have hs2 : Hid (W2.heap.size = W.heap.size + 2) := Lib.hid (by rw [hW2]; simp)
  clear hr0 hr1 hb1 hs1 hr2 hr3 hb2 hW2
  gi_wp2_with fail
  have hseq := walk_seq (.pointer none) [] x (W.heap.size + 1) W.heap.size W W2 (.inl ⟨rfl, rfl⟩) HB2.out (cell_of_row W2 _ 0 _ _ _ HR3.out) (cell_of_row W2 _ 0 _ _ _ HR2.out) (by omega) (by omega) hx 2
  have c7 : W2.cell? ⟨w.heap.size + 1, 0, none⟩ = some (.slice none 0 0) := cell_of_row W2 _ 0 _ _ _ ((HB2.out.block _ (by have := HS1.out; omega)).trans HR1.out)
  have hlt7 : w.heap.size + 1 < W2.heap.size := block_lt_of_cell c7
  refine' wpIn_rangeFunc_seq rfl (by omega) rfl trivial (enters_of Try.func63 (by kernel_rfl) rfl) hseq ?hG (Below.refl _ _) ⟨by have := hs2.out; omega, by have := hs2.out; omega, by have := hs2.out; omega⟩ (fun _ => rfl)
    (fun pre C A => (∀ q, ¬ C q) ∧ A.cell? ⟨w.heap.size + 1, 0, none⟩ = some (.slice none 0 0) ∧ Below w.heap.size w A) (fun _ _ _ _ => False) (fun _ => False) ?hI (fun _ _ _ _ _ h => h.elim) ?hIs (fun _ h => h.elim) ?h0
    _ ?assign ?body ?done ?stop
  case assign =>
    intro l x W K hK
    gi_wp2
    exact hK
  case hG => exact own_putObj _
  case hI =>
    rintro pre C A A' ⟨h1, h2, h3⟩ hs
    have hlt := block_lt_of_cell h2
    refine ⟨h1, ?_, h3.trans (hs.below _ h3.size fun i hi e => by have := e.1; omega)⟩
    unfold World.cell? at h2 ⊢
    simp only at h2 hlt ⊢
    rw [hs.block _ hlt fun e => by have := e.1; omega]
    exact h2
  case hIs => exact fun pre C A h q hq => absurd hq (h.1 q)
  case h0 => exact ⟨fun q h => h, c7, btr HB1.out HB2.out⟩
  case body =>
    rintro l pre x C A hI hG ⟨h1, -⟩
    cases h1
  case done =>
    rintro D xs C A hD - ⟨-, hc, hb⟩ hK
    gi_wp2_with fail
    refine ⟨by simp, .inl ⟨_, _, rfl, run_takeDeferred hK, ?_⟩⟩
    exact ⟨_, results_tmp rfl _ _ _, rfl, hb.trans (Only.putObj A D _ |>.below _ hb.size fun i hi e => by have := HS1.out; have := hs2.out; omega)⟩
  case stop =>
    rintro D c pre C A hD - h
    exact h.elim

theorem walkO_len (l : List (Nat × Nd)) (out st : List Nat) : (walkO l out st).length ≤ out.length + todo l out := by
  induction h : todo l out + st.length using Nat.strongRecOn generalizing out st with
  | _ n ih =>
    subst h
    cases st with
    | nil => rw [walkO_nil]; omega
    | cons x st =>
      cases hn : getA l x with
      | none =>
        rw [walkO_skip (.inl hn)]
        exact ih _ (by simp) _ _ rfl
      | some n =>
        by_cases hx : x ∈ out
        · rw [walkO_skip (.inr hx)]
          exact ih _ (by simp) _ _ rfl
        · rw [walkO_step hn hx]
          have h1 := todo_step hn hx
          have := ih _ (by simp; omega) (out ++ [x]) (n.kids ++ st) rfl
          simp at this
          omega
theorem ArAt.few_walk {w : World} {g b : Nat} {l : List (Nat × Nd)} (h : ArAt w g b l) (x : Nat) : (walkOf l x).length ≤ 20000020000 := by
  have h1 := walkO_len l [] [x]
  have h2 := todo_max (fun p hp => ((ArV.ok (.inr ⟨g, b, rfl, h⟩)) p hp).few) ([] : List Nat)
  have := h.few
  unfold walkOf
  simp at h1
  omega
/-- the delete -/
theorem ArAt.drop {w : World} {g b : Nat} {l : List (Nat × Nd)} (h : ArAt w g b l) (x : Nat) (hx : x < 18446744073709551616) (ty : TypeId) :
    ∃ w', (Builtin.delete_ #[68, 26] ty #[.map (some b), .int .u64 x]).run Try.prog w = .ok (.tuple #[]) w' ∧ ArAt w' g b (delA l x) ∧ Only w w' (fun q => q = b) := by
  obtain ⟨vl, h1, h2⟩ := h.ex
  obtain ⟨w', hrun, g1, g2, g3⟩ := h1.drop (t := 68) Try.underlying26 Try.underlying68 x hx ty
  obtain ⟨es, c, hbm⟩ := h1.isMap
  have hs : ∀ k, k = b → ∀ cs fr, w.heap[k]? ≠ some (.cells cs 26 fr) := fun k hk cs fr e => by subst hk; rw [hbm] at e; cases e
  refine ⟨w', hrun, ⟨(g2.block g h.lt.1 (fun e => by subst e; rw [h.box] at hbm; cases hbm)).trans h.box, ⟨_, g1, (h2.del x).mono fun v n hn => hn.only g2 hs⟩, fun p hp => h.nz p (List.mem_filter.1 hp).1, Nat.le_trans (List.length_filter_le _ _) h.few⟩, g2⟩

/-- what the loop of Drop holds -/
def DrI (w : World) (o : Nat) (pre : List El) (C : Nat → Prop) (A : World) : Prop :=
  ∃ v, A.heap[o]? = some (.cells #[v] 27 (0, 0)) ∧ OwnIds w.heap.size A v (pre.map (·.1)) ∧ (∀ q, C q ↔ q = o ∨ v.ownBlock = some q) ∧ Below w.heap.size w A
theorem DrI.holds (w : World) (o B : Nat) (hB : w.heap.size ≤ B) : Holds B (DrI w o) := by
  rintro pre C A A' ⟨v, h1, h2, h3, h4⟩ hs
  refine ⟨v, (hs.block o (Array.getElem?_eq_some_iff.1 h1).1 fun e => e.2 ((h3 o).2 (.inl rfl))).trans h1, h2.keep hs fun q hq e => e.2 ((h3 q).2 (.inr hq)), h3, h4.trans (hs.below _ h4.size fun i hi e => by have := e.1; omega)⟩
theorem DrI.size {w : World} {o : Nat} {pre : List El} {C : Nat → Prop} {A : World} (h : DrI w o pre C A) : ∀ q, C q → q < A.heap.size := by
  obtain ⟨v, h1, h2, h3, h4⟩ := h
  intro q hq
  rcases (h3 q).1 hq with rfl | e
  · exact (Array.getElem?_eq_some_iff.1 h1).1
  · exact (h2.blk e).2

theorem own_one (w : World) (x : Nat) : OwnIds w.heap.size (w.alloc (.cells #[.int .u64 x] 26)) (.slice (some ⟨w.heap.size, 0, none⟩) 1 1) [x] :=
  ⟨by simp, .inr ⟨_, 1, _, rfl, Nat.le_refl _, heap_alloc_new w _, Nat.le_refl _, by unfold maxLen; omega, rfl, rfl⟩⟩

set_option maxRecDepth 10000 in
set_option maxHeartbeats 1600000 in
theorem ardrop_any (g b : Nat) (l : List (Nat × Nd)) (x : Nat) (w : World) (h : ArAt w g b l) (hx : x < 18446744073709551616) :
    Calls Try.prog 15 #[.pointer (some ⟨g, 0, none⟩), .int .u64 x] w fun e w' => e = .returned (.int .i64 (walkOf l x).length) ∧ ArAt w' g b ((walkOf l x).foldl delA l) ∧ Only w w' (fun q => q = b) := by
  refine callsIn_wide (n := 3).1 ?_
  refine callsIn_of_wp_marks Try.func15 rfl trivial ?_
  simp only [Try.ntmps15, List.size_toArray, List.length_cons, List.length_nil, Nat.reduceAdd, Nat.reduceSub, Array.replicate_succ, Array.replicate_zero, List.push_toArray, List.append_toArray, List.nil_append, List.cons_append]
  have H := Lib.hid h
  clear h
  gi_wp2_with fail
  refine ⟨trivial, ?_⟩
  have hr1 := heap_alloc_new w (.cells #[.slice none 0 0] 27)
  have hb1 := bal (bre w) (.cells #[.slice none 0 0] 27)
  have hs1 : (w.alloc (.cells #[.slice none 0 0] 27)).heap.size = w.heap.size + 1 := by simp
  generalize w.alloc (.cells #[.slice none 0 0] 27) = W at *
  have HB1 := Lib.hid hb1
  have HR1 := Lib.hid hr1
  have HS1 := Lib.hid hs1
  refine (callsIn_wide.2 (arwalk_any (some ⟨g, 0, none⟩) x W)).mono ?_
  rintro e W2 ⟨rfl, hW2⟩
  obtain ⟨hr2, hr3⟩ := two_new W (.cells #[.pointer (some ⟨g, 0, none⟩)] 23) (.cells #[.int .u64 x] 26)
  have hb2 := bal (bal (bre W) (.cells #[.pointer (some ⟨g, 0, none⟩)] 23)) (.cells #[.int .u64 x] 26)
  rw [← hW2] at hr2 hr3 hb2
  have HB2 := Lib.hid (hb1.trans (hb2.mono hb1.size))
  have HR2 := Lib.hid hr2
  have HR3 := Lib.hid hr3
  have hs2 : Hid (W2.heap.size = W.heap.size + 2) := Lib.hid (by rw [hW2]; simp)
  have HO : Hid (W2.heap[w.heap.size]? = some (.cells #[.slice none 0 0] 27 (0, 0))) := Lib.hid ((hb2.block _ (by omega)).trans hr1)
  clear hr1 hb1 hs1 hr2 hr3 hb2 hW2
  gi_wp2_with fail
  have hseq := walk_seq (.pointer (some ⟨g, 0, none⟩)) l x (W.heap.size + 1) W.heap.size w W2 (.inr ⟨g, b, rfl, H.out⟩) HB2.out (cell_of_row W2 _ 0 _ _ _ HR3.out) (cell_of_row W2 _ 0 _ _ _ HR2.out) (by have := HS1.out; omega) (by have := HS1.out; omega) hx 2
  refine' wpIn_rangeFunc_seq rfl (by omega) rfl trivial (enters_of Try.func63 (by kernel_rfl) rfl) hseq (own_putObj _) (Below.refl _ _) ⟨by have := hs2.out; have := HS1.out; omega, by have := hs2.out; omega, by have := hs2.out; omega⟩ (fun _ => rfl)
    (DrI w w.heap.size) (fun _ _ _ _ => False) (fun q => q = w.heap.size) (DrI.holds _ _ _ HB2.out.size) (fun _ _ _ _ _ h => h.elim) (fun _ _ _ h => h.size) (fun q e => ⟨by omega, by have := HS1.out; omega, by have := HS1.out; omega⟩) ⟨_, HO.out, OwnIds.nil _ _, fun q => by simp [Value.ownBlock], HB2.out⟩
    _ ?assign ?body ?done ?stop
  case assign =>
    intro l x W K hK
    simp only [elEnc, List.zip_toArray, List.zip_cons_cons, List.zip_nil_right, List.foldl_toArray, List.foldl_cons, List.foldl_nil, List.setIfInBounds_toArray, List.set_cons_succ, List.set_cons_zero]
    gi_wp2
    exact hK
  case body =>
    rintro lp pre ⟨xi, xn, xv⟩ C A ⟨v, ho, hv, hC, hb⟩ hG ⟨hgx, r, hr⟩
    have hlen : pre.length ≤ 20000020000 := by
      have := H.out.few_walk x
      rw [hr] at this
      simp at this
      omega
    have c0 := cell_of_row A w.heap.size 0 _ _ _ ho
    obtain ⟨va, vc, rfl⟩ := hv.slice
    obtain ⟨v6, w6, hrun6, hv6, hg6, hs6⟩ := run_app_ids (hv.below (bal (bre A) (.cells #[.int .u64 xi] 26))) (own_one A xi).ids 27 (by have := hb.size; simp; omega) (by simp; omega)
    obtain ⟨a6, c6, rfl⟩ := hv6.slice
    have hne : ∀ q, (Value.slice va (pre.map (·.1)).length vc).ownBlock = some q → q ≠ w.heap.size := fun q hq e => by
      subst e
      obtain ⟨-, h2 | ⟨g', cap, cur, e2, -, hg', -⟩⟩ := hv
      · rw [h2.1] at hq; cases hq
      · rw [e2] at hq
        have e3 : g' = w.heap.size := by simpa [Value.ownBlock] using hq
        rw [e3, ho] at hg'
        cases hg'
    have hlt := (Array.getElem?_eq_some_iff.1 ho).1
    have hal := bal (bre A) (.cells #[.int .u64 xi] 26)
    have ho1 : (A.alloc (.cells #[.int .u64 xi] 26)).heap[w.heap.size]? = some (.cells #[.slice va (pre.map (·.1)).length vc] 27 (0, 0)) := (hal.block _ hlt).trans ho
    have ho6 := ((Only.of_grown hg6).block _ (by simp; omega) fun e => hne _ e rfl).trans ho1
    have hrun6' : (Builtin.append_ #[27, 27] 27 #[Value.slice va pre.length vc, .slice (some ⟨A.heap.size, 0, none⟩) 1 1]).run Try.prog (A.alloc (.cells #[.int .u64 xi] 26)) =   .ok (Value.slice a6 (pre.map (·.1) ++ [xi]).length c6) w6 := by rw [List.length_map] at hrun6; exact hrun6
    have y6 := cell_of_row w6 w.heap.size 0 _ _ _ ho6
    have f6 := frozen_of_row w6 w.heap.size 0 _ _ ho6
    have hot : Only A (w6.setCell ⟨w.heap.size, 0, none⟩ (Value.slice a6 (pre.map (·.1) ++ [xi]).length c6)) C := by
      refine (((Only.of_below hal fun _ => False).mono (T := C) fun _ _ h => h.elim).trans ((Only.of_grown hg6).mono (T := C) fun i hi e => (hC i).2 (.inr e)) fun i _ h => h).trans ((Only.setCell w6 ⟨w.heap.size, 0, none⟩ (Value.slice a6 (pre.map (·.1) ++ [xi]).length c6)).mono (T := C) fun i hi e => (hC i).2 (.inl e)) fun i _ h => h
    have hfin : DrI w w.heap.size (pre ++ [(xi, xn, xv)]) (fun q => q = w.heap.size ∨ (Value.slice a6 (pre.map (·.1) ++ [xi]).length c6).ownBlock = some q) (w6.setCell ⟨w.heap.size, 0, none⟩ (Value.slice a6 (pre.map (·.1) ++ [xi]).length c6)) := by
      refine ⟨_, heap_setCell_same w6 w.heap.size 0 _ _ (Value.slice a6 (pre.map (·.1) ++ [xi]).length c6) ho6, ?_, fun q => Iff.rfl, hb.trans (hot.below _ hb.size fun i hi e => ?_)⟩
      · rw [List.map_append]
        refine hv6.keep (Only.setCell w6 ⟨w.heap.size, 0, none⟩ (Value.slice a6 (pre.map (·.1) ++ [xi]).length c6)) fun q hq e => ?_
        obtain ⟨-, h2 | ⟨g', cap, cur, e2, -, hg', -⟩⟩ := hv6
        · rw [h2.1] at hq; cases hq
        · rw [e2] at hq
          have e3 : g' = q := by simpa [Value.ownBlock] using hq
          have e4 : q = w.heap.size := e
          rw [e3, e4, ho6] at hg'
          cases hg'
      · rcases (hC i).1 e with rfl | e
        · omega
        · have := (hv.blk e).1; omega
    have hCn : ∀ q, (q = w.heap.size ∨ (Value.slice a6 (pre.map (·.1) ++ [xi]).length c6).ownBlock = some q) → C q ∨ A.heap.size ≤ q := fun q hq => by
      rcases hq with rfl | hq
      · exact .inl ((hC _).2 (.inl rfl))
      · rcases hs6 with e | e
        · exact .inl ((hC _).2 (.inr (by rw [← e]; exact hq)))
        · have := e q hq; simp at this; exact .inr (by omega)
    have hll : (pre.map (·.1) ++ [xi]).length = pre.length + 1 := by simp
    rw [hll] at hot hfin hCn
    have HOT := Lib.hid hot
    have HFIN := Lib.hid hfin
    have HCN := Lib.hid hCn
    clear hll hot hfin hCn ho ho1 ho6 hal hne hv hv6 hg6 hs6 hrun6 hlen hC hr hgx hG hb
    rw [List.length_map] at c0
    gi_wp2_with (gi_at_builtin; refine wpListIn_run rfl _ _ _ rfl _ _ _ _ rfl rfl hrun6' ?_)
    exact ⟨HOT.out, _, HCN.out, HFIN.out⟩
  case done =>
    rintro D xs C A hD ⟨hxs, hel⟩ ⟨v, ho, hv, hC, hb⟩ hK
    have c0 := cell_of_row A w.heap.size 0 _ _ _ ho
    rw [hxs] at hv
    obtain ⟨va, vc, rfl⟩ := hv.slice
    obtain ⟨ids, hids⟩ : ∃ ids, ids = walkOf l x := ⟨_, rfl⟩
    have hid64 : ∀ y ∈ ids, y < 18446744073709551616 := fun y hy => by
      rw [hids, ← hxs] at hy
      obtain ⟨z, hz, rfl⟩ := List.mem_map.1 hy
      exact H.out.asc.2 _ (getA_mem (hel z hz))
    have hfw := H.out.few_walk x
    rw [← hids] at hv hfw c0
    have HIDS := Lib.hid hids
    obtain ⟨N, hN⟩ : ∃ N, N = ids.length := ⟨_, rfl⟩
    rw [← hN] at hv c0 hfw
    have HV := Lib.hid hv
    have HID := Lib.hid hid64
    have HN := Lib.hid hN
    have HA := Lib.hid (H.out.below hb)
    have HB := Lib.hid hb
    have HK := Lib.hid hK
    have HD := Lib.hid hD
    have HSW := Lib.hid HB2.out.size
    have HLT : Hid (b < w.heap.size) := Lib.hid H.out.lt.2
    have HBX := Lib.hid ho
    clear hv hid64 hN hids hxs hel hC ho hb hK hD hseq HO HR2 HR3 hs2 HB1 HR1 HS1 HB2 H
    gi_wp2_with fail
    gi_loopw [20] (fun i wr => ∃ k : Nat, k ≤ N ∧ i = .int .i64 k ∧ Hid (ArAt wr g b ((ids.take k).foldl delA l)) ∧ Hid (Only A wr (fun q => q = b))) (fun i _ => N - (intOf i).toNat)
    case atStart => exact ⟨0, by omega, rfl, Lib.hid HA.out, Lib.hid (Only.refl _ _)⟩
    case round =>
      obtain ⟨k, hk, rfl, har, hon⟩ := hrel
      by_cases hlt : k < N
      · have d1 : decide ((k : Int) < (N : Int)) = true := decide_eq_true (by omega)
        have d1n : decide (k < N) = true := decide_eq_true hlt
        obtain ⟨y, hy⟩ : ∃ y, ids[k]? = some y := ⟨_, List.getElem?_eq_getElem (by rw [← HN.out]; exact hlt)⟩
        obtain ⟨gv, rfl⟩ : ∃ gv, va = some ⟨gv, 0, none⟩ := by
          obtain ⟨-, h2 | ⟨g', cap, cur, e2, -⟩⟩ := HV.out
          · have h3 := h2.2; rw [← HN.out] at h3; omega
          · injection e2 with e2; exact ⟨g', e2⟩
        have hgb : gv ≠ b := fun e => by
          subst e
          obtain ⟨-, h2 | ⟨g', cap, cur, e2, -, hg', -⟩⟩ := HV.out
          · cases h2.1
          · injection e2 with e2
            injection e2 with e2
            injection e2 with e2
            subst e2
            obtain ⟨vl, h1, -⟩ := HA.out.ex
            obtain ⟨es, c, hbm⟩ := h1.isMap
            rw [hbm] at hg'
            cases hg'
        have hv' := HV.out.keep hon.out fun q hq e => by
          have : gv = q := by simpa [Value.ownBlock] using hq
          omega
        have cy := (hv'.cell hy).1
        have c1 := har.out.c0
        obtain ⟨w7, hdel, har7, hon7⟩ := har.out.drop y (HID.out y (List.mem_of_getElem? hy)) 0
        have HAR7 := Lib.hid har7
        have HON7 := Lib.hid (hon.out.trans hon7 fun _ _ h => h)
        have HTK : Hid ((ids.take (k + 1)).foldl delA l = delA ((ids.take k).foldl delA l) y) := Lib.hid (by rw [List.take_add_one, hy, List.foldl_append]; rfl)
        clear har7 hon7 har hon hv' hgb hy
        gi_wp2_with fail
        exact ⟨⟨k + 1, by omega, by go_num, Lib.hid (by rw [HTK.out]; exact HAR7.out), HON7⟩, by simp [intOf]; omega⟩
      · have d1 : decide ((k : Int) < (N : Int)) = false := decide_eq_false (by omega)
        have d1n : decide (k < N) = false := decide_eq_false hlt
        have hkN : k = N := by omega
        have HKN := Lib.hid hkN
        have HAR := har
        have HON := hon
        have hbx := cell_of_row wr w.heap.size 0 _ _ _ ((hon.out.block _ (Array.getElem?_eq_some_iff.1 HBX.out).1 fun e => by have := HLT.out; omega).trans HBX.out)
        have HK2 : Hid (wr.heap[D]? = some (.deferred (some []))) := Lib.hid ((hon.out.block _ (Array.getElem?_eq_some_iff.1 HK.out).1 fun e => by have := HLT.out; have := HD.out; have := HSW.out; omega).trans HK.out)
        clear har hon hlt hkN
        gi_wp2_with fail
        refine ⟨by simp, .inl ⟨_, _, rfl, run_takeDeferred HK2.out, ?_⟩⟩
        have hDn : ∀ q, q = D → ∀ cs fr, wr.heap[q]? ≠ some (.cells cs 26 fr) := fun q e cs fr e2 => by subst e; rw [HK2.out] at e2; cases e2
        have hDg : g ≠ D := fun e => by subst e; have := HAR.out.box; rw [HK2.out] at this; cases this
        have hDb : b ≠ D := by have := HLT.out; have := HD.out; have := HSW.out; omega
        have har := HAR.out.only (Only.putObj wr D (.deferred none)) hDg hDb hDn
        rw [HKN.out, HN.out, List.take_length] at har
        refine ⟨_, results_tmp rfl _ _ _, by rw [HN.out, HIDS.out]; rfl, by rw [← HIDS.out]; exact har, ?_⟩
        refine ((((Only.of_below (HB.out.mono (Nat.le_refl _)) fun _ => False).mono (T := fun q => q = b ∨ q = D) fun _ _ h => h.elim).trans (HON.out.mono (T := fun q => q = b ∨ q = D) fun i _ e => .inl e) fun i _ h => h).trans ((Only.putObj wr D (.deferred none)).mono (T := fun q => q = b ∨ q = D) fun i _ e => .inr e) fun i _ h => h).mono fun i hi e => ?_
        have := HD.out
        have := HSW.out
        omega
  case stop =>
    rintro D c pre C A hD - h
    exact h.elim

set_option maxRecDepth 10000 in
set_option maxHeartbeats 1600000 in
theorem ardrop_nil (x : Nat) (w : World) (hx : x < 18446744073709551616) :
    Calls Try.prog 15 #[.pointer none, .int .u64 x] w fun e w' => e = .returned (.int .i64 0) ∧ Below w.heap.size w w' := by
  refine callsIn_wide (n := 3).1 ?_
  refine callsIn_of_wp_marks Try.func15 rfl trivial ?_
  simp only [Try.ntmps15, List.size_toArray, List.length_cons, List.length_nil, Nat.reduceAdd, Nat.reduceSub, Array.replicate_succ, Array.replicate_zero, List.push_toArray, List.append_toArray, List.nil_append, List.cons_append]
  gi_wp2_with fail
  refine ⟨trivial, ?_⟩
  have hr1 := heap_alloc_new w (.cells #[.slice none 0 0] 27)
  have hb1 := bal (bre w) (.cells #[.slice none 0 0] 27)
  have hs1 : (w.alloc (.cells #[.slice none 0 0] 27)).heap.size = w.heap.size + 1 := by simp
  generalize w.alloc (.cells #[.slice none 0 0] 27) = W at *
  have HS1 := Lib.hid hs1
  refine (callsIn_wide.2 (arwalk_any none x W)).mono ?_
  rintro e W2 ⟨rfl, hW2⟩
  obtain ⟨hr2, hr3⟩ := two_new W (.cells #[.pointer none] 23) (.cells #[.int .u64 x] 26)
  have hb2 := bal (bal (bre W) (.cells #[.pointer none] 23)) (.cells #[.int .u64 x] 26)
  rw [← hW2] at hr2 hr3 hb2
  have HB2 := Lib.hid (hb1.trans (hb2.mono hb1.size))
  have HR2 := Lib.hid hr2
  have HR3 := Lib.hid hr3
  have hs2 : Hid (W2.heap.size = W.heap.size + 2) := Lib.hid (by rw [hW2]; simp)
  have HO : Hid (W2.heap[w.heap.size]? = some (.cells #[.slice none 0 0] 27 (0, 0))) := Lib.hid ((hb2.block _ (by omega)).trans hr1)
  clear hr1 hb1 hs1 hr2 hr3 hb2 hW2
  gi_wp2_with fail
  have hseq := walk_seq (.pointer none) [] x (W.heap.size + 1) W.heap.size w W2 (.inl ⟨rfl, rfl⟩) HB2.out (cell_of_row W2 _ 0 _ _ _ HR3.out) (cell_of_row W2 _ 0 _ _ _ HR2.out) (by have := HS1.out; omega) (by have := HS1.out; omega) hx 2
  refine' wpIn_rangeFunc_seq rfl (by omega) rfl trivial (enters_of Try.func63 (by kernel_rfl) rfl) hseq (own_putObj _) (Below.refl _ _) ⟨by have := hs2.out; have := HS1.out; omega, by have := hs2.out; omega, by have := hs2.out; omega⟩ (fun _ => rfl)
    (fun pre C A => (∀ q, ¬ C q) ∧ A.heap[w.heap.size]? = some (.cells #[.slice none 0 0] 27 (0, 0)) ∧ Below w.heap.size w A) (fun _ _ _ _ => False) (fun _ => False) ?hI (fun _ _ _ _ _ h => h.elim) ?hIs (fun _ h => h.elim) ⟨fun q h => h, HO.out, HB2.out⟩
    _ ?assign ?body ?done ?stop
  case assign =>
    intro l x W K hK
    gi_wp2
    exact hK
  case hI =>
    rintro pre C A A' ⟨h1, h2, h3⟩ hs
    have hlt := (Array.getElem?_eq_some_iff.1 h2).1
    exact ⟨h1, (hs.block _ hlt fun e => by have := e.1; have := HB2.out.size; have := hs2.out; have := HS1.out; omega).trans h2, h3.trans (hs.below _ h3.size fun i hi e => by have := e.1; have := HB2.out.size; omega)⟩
  case hIs => exact fun pre C A h q hq => absurd hq (h.1 q)
  case body =>
    rintro l pre x C A hI hG ⟨h1, -⟩
    cases h1
  case done =>
    rintro D xs C A hD - ⟨-, hc, hb⟩ hK
    have HSW := Lib.hid HB2.out.size
    have c0 := cell_of_row A w.heap.size 0 _ _ _ hc
    have HK := Lib.hid hK
    clear hK hc HO HR2 HR3
    gi_wp2_with fail
    gi_loopw [20] (fun i wr => i = .int .i64 0 ∧ wr = A) (fun i _ => 0)
    case atStart => exact ⟨rfl, rfl⟩
    case round =>
      obtain ⟨rfl, rfl⟩ := hrel
      gi_wp2_with fail
      refine ⟨by simp, .inl ⟨_, _, rfl, run_takeDeferred HK.out, ?_⟩⟩
      exact ⟨_, results_tmp rfl _ _ _, rfl, hb.trans (Only.putObj _ D _ |>.below _ hb.size fun i hi e => by have := HSW.out; omega)⟩
  case stop =>
    rintro D c pre C A hD - h
    exact h.elim
end Go.Proofs.Ytnbncjebmlicgaa
