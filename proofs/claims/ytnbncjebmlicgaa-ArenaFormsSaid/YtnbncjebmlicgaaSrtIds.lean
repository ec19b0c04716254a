/- Walks: AppendSeq, Collect, Sorted over the keys; an arena's IDs, rising. -/
import Derived.Test.YtnbncjebmlicgaaSrtKeys
namespace Go.Proofs.Ytnbncjebmlicgaa
open Go Go.RowKit
attribute [local go_sem] Oper.semAt_some

/-- what the loop of AppendSeq holds -/
def AqI (w : World) (o : Nat) (pre : List Nat) (C : Nat → Prop) (A : World) : Prop :=
  ∃ v, A.heap[o]? = some (.cells #[v] 27 (0, 0)) ∧ OwnIds w.heap.size A v pre ∧ (∀ q, C q ↔ q = o ∨ v.ownBlock = some q) ∧ Below w.heap.size w A
theorem AqI.holds (w : World) (o B : Nat) (hB : w.heap.size ≤ B) : Holds B (AqI w o) := by
  rintro pre C A A' ⟨v, h1, h2, h3, h4⟩ hs
  refine ⟨v, (hs.block o (Array.getElem?_eq_some_iff.1 h1).1 fun e => e.2 ((h3 o).2 (.inl rfl))).trans h1, h2.keep hs fun q hq e => e.2 ((h3 q).2 (.inr hq)), h3, h4.trans (hs.below _ h4.size fun i hi e => by have := e.1; omega)⟩
theorem AqI.size {w : World} {o : Nat} {pre : List Nat} {C : Nat → Prop} {A : World} (h : AqI w o pre C A) : ∀ q, C q → q < A.heap.size := by
  obtain ⟨v, h1, h2, h3, h4⟩ := h
  intro q hq
  rcases (h3 q).1 hq with rfl | e
  · exact (Array.getElem?_eq_some_iff.1 h1).1
  · exact (h2.blk e).2

set_option maxRecDepth 10000 in
set_option maxHeartbeats 1600000 in
theorem appendseq_any (bm b : Nat) (vl : List (Nat × Value)) (w : World) (hm : MapU Try.prog 26 w b vl) (hc : w.cell? ⟨bm, 0, none⟩ = some (.map (some b))) (hlen : vl.length ≤ 1000000) :
    Calls Try.prog 75 #[.slice none 0 0, .func (.func 67) #[] #[.pointer (some ⟨bm, 0, none⟩)]] w fun e w' => ∃ v xs, e = .returned v ∧ OwnIds w.heap.size w' v xs ∧ xs.Perm (vl.map (·.1)) ∧ Below w.heap.size w w' := by
  refine callsIn_wide (n := 3).1 ?_
  refine callsIn_of_wp_marks Try.func75 rfl trivial ?_
  simp only [Try.ntmps75, List.size_toArray, List.length_cons, List.length_nil, Nat.reduceAdd, Nat.reduceSub, Array.replicate_succ, Array.replicate_zero, List.push_toArray, List.append_toArray, List.nil_append, List.cons_append]
  have hr1 := heap_alloc_new w (.cells #[.slice none 0 0] 27)
  have hb1 := bal (bre w) (.cells #[.slice none 0 0] 27)
  have hs1 : (w.alloc (.cells #[.slice none 0 0] 27)).heap.size = w.heap.size + 1 := by simp
  have hm1 : MapU Try.prog 26 (w.alloc (.cells #[.slice none 0 0] 27)) b vl := hm.below hb1
  have hc1 := (hb1.cell (p := ⟨bm, 0, none⟩) (block_lt_of_cell hc)).trans hc
  have hseq := keys_seq bm b vl w hm hc 2
  have HSEQ := Lib.hid hseq
  have HB1 := Lib.hid hb1
  have HR1 := Lib.hid hr1
  have HS1 := Lib.hid hs1
  clear hseq hr1 hb1 hs1 hm1 hc1
  gi_wp2_with fail
  generalize w.alloc (.cells #[.slice none 0 0] 27) = W at *
  refine' wpIn_rangeFunc_seq rfl (by omega) rfl trivial (enters_of Try.func67 (by kernel_rfl) rfl) HSEQ.out (fun _ _ _ _ _ _ _ _ => trivial) HB1.out (by have := HS1.out; omega) (fun _ => rfl)
    (AqI w w.heap.size) (fun _ _ _ _ => False) (fun q => q = w.heap.size) (AqI.holds _ _ _ HB1.out.size) (fun _ _ _ _ _ h => h.elim) (fun _ _ _ h => h.size) (fun q e => by omega) ⟨_, HR1.out, OwnIds.nil _ _, fun q => by simp [Value.ownBlock], HB1.out⟩
    _ ?assign ?body ?done ?stop
  case assign =>
    intro l x W K hK
    simp only [List.zip_toArray, List.zip_cons_cons, List.zip_nil_right, List.foldl_toArray, List.foldl_cons, List.foldl_nil, List.setIfInBounds_toArray, List.set_cons_succ, List.set_cons_zero]
    gi_wp2
    exact hK
  case body =>
    rintro lp pre xi C A ⟨v, ho, hv, hC, hb⟩ hG ⟨h64, hpl⟩
    have hlen2 : pre.length ≤ 1000000 := by omega
    have c0 := cell_of_row A w.heap.size 0 _ _ _ ho
    obtain ⟨va, vc, rfl⟩ := hv.slice
    obtain ⟨v6, w6, hrun6, hv6, hg6, hs6⟩ := run_app_ids (hv.below (bal (bre A) (.cells #[.int .u64 xi] 26))) (own_one A xi).ids 27 (by have := hb.size; simp; omega) (by simp; omega)
    obtain ⟨a6, c6, rfl⟩ := hv6.slice
    have hne : ∀ q, (Value.slice va pre.length vc).ownBlock = some q → q ≠ w.heap.size := fun q hq e => by
      subst e
      obtain ⟨-, h2 | ⟨g', cap, cur, e2, -, hg', -⟩⟩ := hv
      · rw [h2.1] at hq; cases hq
      · rw [e2] at hq
        have e3 : g' = w.heap.size := by simpa [Value.ownBlock] using hq
        rw [e3, ho] at hg'
        cases hg'
    have hlt := (Array.getElem?_eq_some_iff.1 ho).1
    have hal := bal (bre A) (.cells #[.int .u64 xi] 26)
    have ho1 : (A.alloc (.cells #[.int .u64 xi] 26)).heap[w.heap.size]? = some (.cells #[.slice va pre.length vc] 27 (0, 0)) := (hal.block _ hlt).trans ho
    have ho6 := ((Only.of_grown hg6).block _ (by simp; omega) fun e => hne _ e rfl).trans ho1
    have hrun6' : (Builtin.append_ #[27, 27] 27 #[Value.slice va pre.length vc, .slice (some ⟨A.heap.size, 0, none⟩) 1 1]).run Try.prog (A.alloc (.cells #[.int .u64 xi] 26)) = .ok (Value.slice a6 (pre ++ [xi]).length c6) w6 := hrun6
    have y6 := cell_of_row w6 w.heap.size 0 _ _ _ ho6
    have f6 := frozen_of_row w6 w.heap.size 0 _ _ ho6
    have hot : Only A (w6.setCell ⟨w.heap.size, 0, none⟩ (Value.slice a6 (pre ++ [xi]).length c6)) C := by
      refine (((Only.of_below hal fun _ => False).mono (T := C) fun _ _ h => h.elim).trans ((Only.of_grown hg6).mono (T := C) fun i hi e => (hC i).2 (.inr e)) fun i _ h => h).trans ((Only.setCell w6 ⟨w.heap.size, 0, none⟩ (Value.slice a6 (pre ++ [xi]).length c6)).mono (T := C) fun i hi e => (hC i).2 (.inl e)) fun i _ h => h
    have hfin : AqI w w.heap.size (pre ++ [xi]) (fun q => q = w.heap.size ∨ (Value.slice a6 (pre ++ [xi]).length c6).ownBlock = some q) (w6.setCell ⟨w.heap.size, 0, none⟩ (Value.slice a6 (pre ++ [xi]).length c6)) := by
      refine ⟨_, heap_setCell_same w6 w.heap.size 0 _ _ (Value.slice a6 (pre ++ [xi]).length c6) ho6, ?_, fun q => Iff.rfl, hb.trans (hot.below _ hb.size fun i hi e => ?_)⟩
      · refine hv6.keep (Only.setCell w6 ⟨w.heap.size, 0, none⟩ (Value.slice a6 (pre ++ [xi]).length c6)) fun q hq e => ?_
        obtain ⟨-, h2 | ⟨g', cap, cur, e2, -, hg', -⟩⟩ := hv6
        · rw [h2.1] at hq; cases hq
        · rw [e2] at hq
          have e3 : g' = q := by simpa [Value.ownBlock] using hq
          have e4 : q = w.heap.size := e
          rw [e3, e4, ho6] at hg'
          cases hg'
      · rcases (hC i).1 e with rfl | e
        · omega
        · have := (hv.blk e).1; omega
    have hCn : ∀ q, (q = w.heap.size ∨ (Value.slice a6 (pre ++ [xi]).length c6).ownBlock = some q) → C q ∨ A.heap.size ≤ q := fun q hq => by
      rcases hq with rfl | hq
      · exact .inl ((hC _).2 (.inl rfl))
      · rcases hs6 with e | e
        · exact .inl ((hC _).2 (.inr (by rw [← e]; exact hq)))
        · have := e q hq; simp at this; exact .inr (by omega)
    have hll : (pre ++ [xi]).length = pre.length + 1 := by simp
    rw [hll] at hot hfin hCn
    have HOT := Lib.hid hot
    have HFIN := Lib.hid hfin
    have HCN := Lib.hid hCn
    clear hll hot hfin hCn ho ho1 ho6 hal hne hv hv6 hg6 hs6 hrun6 hC hG hb
    gi_wp2_with (gi_at_builtin; refine wpListIn_run rfl _ _ _ rfl _ _ _ _ rfl rfl hrun6' ?_)
    exact ⟨HOT.out, _, HCN.out, HFIN.out⟩
  case done =>
    rintro D xs C A hD hxs ⟨v, ho, hv, hC, hb⟩ hK
    have c0 := cell_of_row A w.heap.size 0 _ _ _ ho
    have HV := Lib.hid hv
    have HB := Lib.hid hb
    have HK := hK
    have HX := Lib.hid hxs
    have HD := Lib.hid hD
    clear hv hC ho hb hD hxs
    gi_wp2_with fail
    refine ⟨by simp, .inl ⟨_, _, rfl, run_takeDeferred HK, ?_⟩⟩
    refine ⟨_, results_tmp rfl _ _ _, v, xs, rfl, HV.out.only (Only.putObj A D (.deferred none)) (fun k e cs fr e2 => by subst e; rw [HK] at e2; cases e2), HX.out, HB.out.trans ((Only.putObj A D (.deferred none)).below _ HB.out.size fun i hi e => ?_)⟩
    have := HD.out
    have := HS1.out
    omega
  case stop =>
    rintro D c pre C A hD hSp h hK
    exact h.elim

set_option maxRecDepth 10000 in
theorem collect_any (bm b : Nat) (vl : List (Nat × Value)) (w : World) (hm : MapU Try.prog 26 w b vl) (hc : w.cell? ⟨bm, 0, none⟩ = some (.map (some b))) (hlen : vl.length ≤ 1000000) :
    Calls Try.prog 65 #[.func (.func 67) #[] #[.pointer (some ⟨bm, 0, none⟩)]] w fun e w' => ∃ v xs, e = .returned v ∧ OwnIds w.heap.size w' v xs ∧ xs.Perm (vl.map (·.1)) ∧ Below w.heap.size w w' := by
  go_enter Try.func65, Try.ntmps65
  go_wp2_with fail
  refine (appendseq_any bm b vl w hm hc hlen).mono ?_
  rintro e w1 ⟨v, xs, rfl, h1, h2, h3⟩
  go_wp2_with fail
  go_ret
  exact ⟨v, xs, rfl, h1, h2, h3⟩
set_option maxRecDepth 10000 in
theorem sorted_any (bm b : Nat) (vl : List (Nat × Value)) (w : World) (hm : MapU Try.prog 26 w b vl) (hc : w.cell? ⟨bm, 0, none⟩ = some (.map (some b))) (hlen : vl.length ≤ 1000000) :
    Calls Try.prog 41 #[.func (.func 67) #[] #[.pointer (some ⟨bm, 0, none⟩)]] w fun e w' => ∃ v, e = .returned v ∧ OwnIds w.heap.size w' v (vl.map (·.1)) ∧ Below w.heap.size w w' := by
  have hasc := ascA_keys hm.2
  have h64 : ∀ x ∈ vl.map (·.1), x < 18446744073709551616 := fun x hx => by
    obtain ⟨p, hp, rfl⟩ := List.mem_map.1 hx
    exact hm.2.2 p hp
  go_enter Try.func41, Try.ntmps41
  go_wp2_with fail
  refine (collect_any bm b vl w hm hc hlen).mono ?_
  rintro e w1 ⟨v, xs, rfl, h1, h2, h3⟩
  go_wp2_with fail
  refine (srtsort_any w.heap.size v xs w1 h1 (fun x hx => h64 x (h2.mem_iff.1 hx)) (by rw [h2.length_eq, List.length_map]; omega)).mono ?_
  rintro e w2 ⟨rfl, l', h4, h5, h6, h7⟩
  go_wp2_with fail
  go_ret
  rw [sorted_is (h5.trans h2) h6 hasc] at h4
  exact ⟨v, rfl, h4, h3.trans (h7.below _ h3.size fun i hi e => by have := (h1.blk e).1; omega)⟩

theorem step_keys {α β : Type} {R : α → β → Prop} {l : List (Nat × α)} {m : List (Nat × β)} (h : StepA R l m) : l.map (·.1) = m.map (·.1) := by
  induction h with
  | nil => rfl
  | cons h _ ih => simp only [List.map_cons, ih]; rw [h.1]
set_option maxRecDepth 10000 in
theorem arids_any (g b : Nat) (l : List (Nat × Nd)) (w : World) (h : ArAt w g b l) :
    Calls Try.prog 23 #[.pointer (some ⟨g, 0, none⟩)] w fun e w' => ∃ v, e = .returned v ∧ OwnIds w.heap.size w' v (l.map (·.1)) ∧ Below w.heap.size w w' := by
  have c0 := h.c0
  obtain ⟨vl, h1, h2⟩ := h.ex
  have hk := step_keys h2
  have hl : vl.length ≤ 1000000 := by have := congrArg List.length hk; have := h.few; simp at *; omega
  have hb1 := bal (bre w) (.cells #[.map (some b)] 68)
  have hr1 := heap_alloc_new w (.cells #[.map (some b)] 68)
  go_enter Try.func23, Try.ntmps23
  go_wp2_with fail
  refine (keys_any b w).mono ?_
  rintro e w1 ⟨rfl, hw1⟩
  rw [← hw1] at hb1 hr1
  have hc1 := cell_of_row w1 w.heap.size 0 _ _ _ hr1
  have hm1 := h1.below hb1
  clear hw1 hr1 c0
  go_wp2_with fail
  refine (sorted_any w.heap.size b vl w1 hm1 hc1 hl).mono ?_
  rintro e w2 ⟨v, rfl, h4, h5⟩
  go_wp2_with fail
  go_ret
  rw [hk] at h4
  exact ⟨v, rfl, h4.base hb1.size, hb1.trans (h5.mono hb1.size)⟩
end Go.Proofs.Ytnbncjebmlicgaa
