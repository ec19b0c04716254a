/- Walk: blocks. -/
import Derived.Test.YtljdphpbalioaaaGreatDoorGrR
namespace Go.Proofs.YtljdphpbalioaaaGreatDoor
open Go.RowKit

set_option linter.unusedSimpArgs false in
set_option maxRecDepth 20000 in
set_option maxHeartbeats 3200000 in
theorem block1_tok (I : World → Prop) (w0 : World) (g bp bt gt D : Nat) (ta : Option Addr) (tc : Nat) (ts : List Tok) (B m n : Nat) (s : PS) (k typ : Nat) (name mod tgt : List UInt8) (num : Int) (w : World) (hst : StmtIH g ta tc ts B m n) (hn : n ≤ 2000000) (hmu : muOf ts s ≤ n) (hI : ∀ w, I w → Caps w bt bp gt g) (h : NS I w0 w g ta tc ts B s D gt k name num typ mod tgt [] [] [] [] []) (hok : Gr.Ok ts s) :
    Calls Tryz.prog 87 #[.pointer (some ⟨bp, 0, none⟩), .pointer (some ⟨bt, 0, none⟩)] w fun e w' => e = .returned (.tuple #[]) ∧
      ∃ bs, NS I w0 w' g ta tc ts B (Gr.bodyOf ts (Gr.stmt ts m n) n s).2 D gt k name num typ mod tgt (Gr.bodyOf ts (Gr.stmt ts m n) n s).1 bs [] [] [] := by
  have HST := Lib.hid hst
  have HN0 := Lib.hid h
  have hcap := hI _ h.holds
  have c1 := hcap.1
  have c2 := hcap.2
  have hfew := h.pat.few
  have hposs : s.pos + 1 ≤ 1000000000 := by have := hok.pos; omega
  have hmu2 : muOf ts (Gr.want1 ts s [123]) ≤ n := Nat.le_trans (mu_want_le ts s [123]) hmu
  have HMU2 := Lib.hid hmu2
  have HOK1 : Hid (Gr.Ok ts (Gr.want1 ts s [123])) := Lib.hid (hok.want1 _)
  obtain ⟨R, hR⟩ : ∃ R, R = Gr.bodyOf ts (Gr.stmt ts m n) n s := ⟨_, rfl⟩
  rw [← hR]
  have HR : Hid (R = Gr.till ts [125] true (Gr.stmt ts m n) n (Gr.want1 ts s [123])) := Lib.hid hR
  clear hst h hcap hmu hmu2 hR
  go_enter Tryz.func87, Tryz.ntmps87
  go_wp2_with fail
  have hb5 := bal (bre w) (.cells #[.string (mk8 [123])] 9)
  have hr5 := heap_alloc_new w (.cells #[.string (mk8 [123])] 9)
  have hng : w.heap.size ≠ g := fun e => by have := (Array.getElem?_eq_some_iff.1 HN0.out.pat.row).1; omega
  have hn5 := HN0.out.below hb5
  refine (want_tok g ta tc ts s [[123]] w.heap.size 1 1 _ hn5.pat rfl (by omega) (fun j x hx => ?_) hng).mono ?_
  · match j, hx with
    | 0, hx => cases hx; exact cell_of_row _ _ 0 _ _ _ hr5
  rintro e w1 ⟨rfl, h1, ho1⟩
  have HN1 : Hid (NS I w0 w1 g ta tc ts B (Gr.want1 ts s [123]) D gt k name num typ mod tgt [] [] [] [] []) := Lib.hid (hn5.call h1 ho1)
  clear hb5 hr5 hng hn5 h1 ho1 HN0 c1 c2 hposs
  go_wp2_with fail
  go_loopw [] (fun wr => ∃ (q : Nat) (s2 : PS) (l : List Tr) (bs : List Nat), Hid (muOf ts s2 ≤ q) ∧ Hid (q ≤ n ∧ q + l.length ≤ n) ∧ Hid ((l ++ (Gr.till ts [125] true (Gr.stmt ts m n) q s2).1, (Gr.till ts [125] true (Gr.stmt ts m n) q s2).2) = R) ∧ Hid (Gr.Ok ts s2) ∧ Hid (NS I w0 wr g ta tc ts B s2 D gt k name num typ mod tgt l bs [] [] [])) (fun wr => muCell g ts.length wr)
  case atStart => exact ⟨n, _, [], [], HMU2, Lib.hid ⟨Nat.le_refl _, Nat.le_refl _⟩, Lib.hid (by rw [HR.out]; rfl), HOK1, HN1⟩
  case round =>
    clear HN1 HMU2 HOK1 HR
    obtain ⟨q, s2, l, bs, hq, hqn, hrd, hok2, hns⟩ := hrel
    rename World => wr
    have hcap := hI _ hns.out.holds
    have c1 := hcap.1
    have c2 := hcap.2
    have c3 := cell_of_row wr g 3 _ _ _ hns.out.pat.row
    replace c3 : wr.cell? ⟨g, 3, none⟩ = some (.bool s2.bad) := c3
    obtain ⟨b, hb⟩ : ∃ b, b = s2.bad := ⟨_, rfl⟩
    rw [← hb] at c3
    have HBB := Lib.hid hb.symm
    clear hb hcap
    cases b with
    | true =>
      have HR2 : Hid (R = (l, s2)) := Lib.hid (by rw [← hrd.out, till_bad _ _ HBB.out, List.append_nil])
      have HPA := hns
      clear hq hqn hrd hok2 hns
      go_wp2_with fail
      refine bodyPost_end (results_none rfl _ _ _) rfl ?_
      exact ⟨rfl, bs, by rw [HR2.out]; exact HPA.out⟩
    | false =>
      have hpl := hok2.out.here HBB.out
      have hmu1 : 1 ≤ muOf ts s2 := by unfold muOf; rw [HBB.out]; simp only [Bool.false_eq_true, if_false]; omega
      obtain ⟨q', hq'⟩ : ∃ x, q = x + 1 := ⟨q - 1, by have := hq.out; omega⟩
      subst hq'
      obtain ⟨n', hn'⟩ : ∃ x, n = x + 1 := ⟨n - 1, by have := hqn.out; omega⟩
      have HMD : Hid (muOf ts (Gr.stmt ts m n s2).2 < muOf ts s2) := Lib.hid (by rw [hn']; exact mu_next HBB.out hpl stmt_adv)
      clear hn' hmu1
      go_wp2_with fail
      refine (take_tok g ta tc ts s2 [125] wr hns.out.pat (by omega)).mono ?_
      rintro e w2 ⟨rfl, hp2, ho2⟩
      obtain ⟨b, hb⟩ : ∃ b, b = Gr.isT ts s2 [125] := ⟨_, rfl⟩
      rw [← hb]
      have HBV : Hid (Gr.isT ts s2 [125] = b) := Lib.hid hb.symm
      have hn2 := hns.out.call hp2 ho2
      clear hb hp2 ho2 c1 c2 c3
      cases b with
      | true =>
        rw [take_yes HBV.out] at hn2
        have HR2 : Hid (R = (l, Gr.PS.adv s2)) := Lib.hid (by rw [← hrd.out, till_end HBB.out HBV.out, List.append_nil]; rfl)
        have HPA := Lib.hid hn2
        clear hq hqn hrd hok2 hns hn2
        go_wp2_with fail
        refine bodyPost_end (results_none rfl _ _ _) rfl ?_
        exact ⟨rfl, bs, by rw [HR2.out]; exact HPA.out⟩
      | false =>
        rw [take_no HBV.out] at hn2
        have HRD : Hid ((l ++ [(Gr.stmt ts m n s2).1] ++ (Gr.till ts [125] true (Gr.stmt ts m n) q' (Gr.stmt ts m n s2).2).1, (Gr.till ts [125] true (Gr.stmt ts m n) q' (Gr.stmt ts m n s2).2).2) = R) := Lib.hid (by rw [← hrd.out, till_more HBB.out HBV.out, List.append_assoc]; rfl)
        have HMC : Hid (muOf ts (Gr.stmt ts m n s2).2 < muCell g ts.length wr) := Lib.hid (by rw [hns.out.pat.mu]; exact HMD.out)
        have HOK2 : Hid (Gr.Ok ts (Gr.stmt ts m n s2).2) := Lib.hid ((Gr.stmt_keeps m n).ok _ hok2.out)
        have HMUL : Hid (muOf ts s2 ≤ n) := Lib.hid (by have := hq.out; have := hqn.out; omega)
        have hn0 := hn2.below (bdr (bre w2))
        obtain ⟨W, hW⟩ : ∃ W, W = w2 := ⟨_, rfl⟩
        rw [← hW] at hn0 ⊢
        clear hW
        obtain ⟨kv, ps0, hrow0, -, -⟩ := hn0.box
        have hlow := hn0.low
        have hgtl := hn0.new gt (List.mem_cons_self ..)
        have HROW : Hid (∀ w', Only W.drew w' (fun k => k = g) → w'.heap[gt]? = some (.cells (boxRow k name num typ 0 (.slice none 0 0) mod tgt kv 0) 75 (0, 0))) := Lib.hid (fun w' ho => (ho.block gt hgtl.2 (fun e => by omega)).trans hrow0)
        have HSS : Hid (∀ w', Only W.drew w' (fun k => k = g) → I w' → I w' ∧ w'.cell? ⟨gt, 8, none⟩ = some kv) := Lib.hid (fun w' ho hi => ⟨hi, cell_of_row w' gt 8 _ _ _ (HROW.out w' ho)⟩)
        have HN0 := Lib.hid hn0
        have hlen : l.length < 3000000 := by have := hqn.out; omega
        clear hn0 hrow0 hlow hgtl hns hn2 hrd
        go_upto_region 2 with fail
        refine region_anyZ (z := 9) (S := fun w' => I w' ∧ w'.cell? ⟨gt, 8, none⟩ = some kv) (by kernel_rfl) ?_
        refine anyZ_begin (fun hcl0 => ?_)
        refine anyZ_held (by exact HSS.out _ (Only.refl _ _) HN0.out.holds) (fun hHeld => ?_)
        -- 0: Op.load 48 (Operand.tmp 1)
        refine' anyZ_take (i := 0) (v := _) rfl (by rfl) (by kernel_rfl) (by kernel_rfl) (by kernel_rfl) hcl0 8 (by kernel_rfl) (by kernel_rfl) (fun _ _ _ h => h) (Or.inl ⟨by rfl, fun w hSw => ?hz1⟩) hHeld (fun hcl1 => ?rz1)
        case hz1 => (simp only [List.getElem_toArray, List.getElem_cons_zero]; obtain ⟨hSi, hS8⟩ := hSw; obtain ⟨hS1, hS2⟩ := hI _ hSi; first | (go_simp; with_reducible rfl) | (go_simp; done) | rfl)
        simp only [List.getElem_toArray, List.getElem_cons_zero, Act.put, List.setIfInBounds_toArray, List.set_cons_zero, List.set_cons_succ]
        -- 1: Op.load 48 (Operand.tmp 1)
        refine' anyZ_take (i := 1) (v := _) rfl (by rfl) (by kernel_rfl) (by kernel_rfl) (by kernel_rfl) hcl1 8 (by kernel_rfl) (by kernel_rfl) (fun _ _ _ h => h) (Or.inl ⟨by rfl, fun w hSw => ?hz2⟩) hHeld (fun hcl2 => ?rz2)
        case hz2 => (simp only [List.getElem_toArray, List.getElem_cons_succ, List.getElem_cons_zero]; obtain ⟨hSi, hS8⟩ := hSw; obtain ⟨hS1, hS2⟩ := hI _ hSi; first | (go_simp; with_reducible rfl) | (go_simp; done) | rfl)
        simp only [List.getElem_toArray, List.getElem_cons_succ, List.getElem_cons_zero, Act.put, List.setIfInBounds_toArray, List.set_cons_zero, List.set_cons_succ]
        -- 2: Op.nilCheck (Operand.tmp 16)
        refine' anyZ_pure (i := 2) (v := _) rfl (by rfl) (by kernel_rfl) (by kernel_rfl) (by kernel_rfl) hcl2 (fun _ _ _ h => h) (Or.inl ⟨by rfl, fun w _ => ?hz3⟩) (fun _ => hHeld) (fun hcl3 => ?rz3)
        case hz3 => (simp only [List.getElem_toArray, List.getElem_cons_succ, List.getElem_cons_zero]; first | (go_simp; with_reducible rfl) | (go_simp; done) | rfl)
        simp only [List.getElem_toArray, List.getElem_cons_succ, List.getElem_cons_zero, Act.put, List.setIfInBounds_toArray, List.set_cons_zero, List.set_cons_succ]
        -- 3: Op.fieldAddr 74 (Operand.tmp 17) 3
        refine' anyZ_pure (i := 3) (v := _) rfl (by rfl) (by kernel_rfl) (by kernel_rfl) (by kernel_rfl) hcl3 (fun _ _ _ h => h) (Or.inl ⟨by rfl, fun w _ => ?hz4⟩) (fun _ => hHeld) (fun hcl4 => ?rz4)
        case hz4 => (simp only [List.getElem_toArray, List.getElem_cons_succ, List.getElem_cons_zero]; first | (go_simp; with_reducible rfl) | (go_simp; done) | rfl)
        simp only [List.getElem_toArray, List.getElem_cons_succ, List.getElem_cons_zero, Act.put, List.setIfInBounds_toArray, List.set_cons_zero, List.set_cons_succ]
        -- 4: Op.load 54 (Operand.tmp 18)
        refine' anyZ_take (i := 4) (v := _) rfl (by rfl) (by kernel_rfl) (by kernel_rfl) (by kernel_rfl) hcl4 8 (by kernel_rfl) (by kernel_rfl) (fun _ _ _ h => h) (Or.inl ⟨by rfl, fun w hSw => ?hz5⟩) hHeld (fun hcl5 => ?rz5)
        case hz5 => (simp only [List.getElem_toArray, List.getElem_cons_succ, List.getElem_cons_zero]; obtain ⟨hSi, hS8⟩ := hSw; obtain ⟨hS1, hS2⟩ := hI _ hSi; first | (go_simp; with_reducible rfl) | (go_simp; done) | rfl)
        simp only [List.getElem_toArray, List.getElem_cons_succ, List.getElem_cons_zero, Act.put, List.setIfInBounds_toArray, List.set_cons_zero, List.set_cons_succ]
        -- 5: Op.load 45 (Operand.tmp 0)
        refine' anyZ_take (i := 5) (v := _) rfl (by rfl) (by kernel_rfl) (by kernel_rfl) (by kernel_rfl) hcl5 8 (by kernel_rfl) (by kernel_rfl) (fun _ _ _ h => h) (Or.inl ⟨by rfl, fun w hSw => ?hz6⟩) hHeld (fun hcl6 => ?rz6)
        case hz6 => (simp only [List.getElem_toArray, List.getElem_cons_succ, List.getElem_cons_zero]; obtain ⟨hSi, hS8⟩ := hSw; obtain ⟨hS1, hS2⟩ := hI _ hSi; first | (go_simp; with_reducible rfl) | (go_simp; done) | rfl)
        simp only [List.getElem_toArray, List.getElem_cons_succ, List.getElem_cons_zero, Act.put, List.setIfInBounds_toArray, List.set_cons_zero, List.set_cons_succ]
        -- 6: Op.call { callee := Callee.value (Operand.func 48), args := 
        refine anyZ_one (i := 6) hcl6 (by kernel_rfl) (by simp only [List.getElem?_toArray, List.getElem?_cons_succ, List.getElem?_cons_zero]; rfl) (by rfl) (fun hcl7 K hK => ?_)
        go_simp
        refine (HST.out s2 _ HMUL.out HBB.out hok2.out HN0.out.asks).mono ?_
        rintro e w2 ⟨v, b2, rfl, hd2, hp2, ho2⟩
        obtain ⟨gv, rfl⟩ := hd2.ptr
        have HN2 := Lib.hid (HN0.out.got hp2 ho2 hd2)
        have HO2 := Lib.hid ho2
        clear hd2 hp2 ho2
        refine hK _ _ (fun _ => ?_) ?_
        · exact HSS.out _ HO2.out HN2.out.holds
        clear hK K hHeld
        try simp only [Act.put, List.setIfInBounds_toArray, List.set_cons_zero, List.set_cons_succ]
        -- 7: Op.buildSlice 54 1 #[(0, Operand.tmp 21)]
        refine anyZ_one (i := 7) hcl7 (by kernel_rfl) (by simp only [List.getElem?_toArray, List.getElem?_cons_succ, List.getElem?_cons_zero]; rfl) (by rfl) (fun hcl8 K hK => ?_)
        go_simp
        refine hK _ _ (fun _ => ?_) ?_
        · exact HSS.out _ (HO2.out.trans (Only.of_below (bal (bre w2) _) _) fun _ _ h => h) (HN2.out.below (bal (bre w2) _)).holds
        clear hK K
        try simp only [Act.put, List.setIfInBounds_toArray, List.set_cons_zero, List.set_cons_succ]
        -- 8: Op.call { callee := Callee.builtin Builtin.append, args := #
        refine anyZ_one (i := 8) hcl8 (by kernel_rfl) (by simp only [List.getElem?_toArray, List.getElem?_cons_succ, List.getElem?_cons_zero]; rfl) (by rfl) (fun hcl9 K hK => ?_)
        have hb3 := bal (bre w2) (.cells #[.pointer (some ⟨gv, 0, none⟩)] 47)
        have hrow3 := HROW.out _ (HO2.out.trans (Only.of_below hb3 _) fun _ _ h => h)
        obtain ⟨ps, hown, hlen, hngt, hinv, happ⟩ := (HN2.out.below hb3).app hrow3
        have hDsz := (HN2.out.below hb3).new gt (List.mem_cons_self ..)
        have hnews : ∀ j u, [Value.pointer (some ⟨gv, 0, none⟩)][j]? = some u → (w2.alloc (.cells #[.pointer (some ⟨gv, 0, none⟩)] 47)).cell? ((⟨w2.heap.size, 0, none⟩ : Addr).add j) = some u := fun j u hu => by
          match j, hu with
          | 0, hu => cases hu; exact cell_of_row _ _ 0 _ _ _ (heap_alloc_new w2 _)
        generalize w2.alloc (.cells #[.pointer (some ⟨gv, 0, none⟩)] 47) = W3 at *
        refine wp_app' _ _ 53 47 1 8 rowPtr rfl _ _ ps.length ps rfl hown ⟨w2.heap.size, 0, none⟩ 1 1 [.pointer (some ⟨gv, 0, none⟩)] rfl rfl hnews (by simp [Value.oneCell']) (by unfold maxLen; omega) (by omega) (Nat.le_of_lt (Nat.lt_of_le_of_lt hDsz.1 hDsz.2)) ?_
        intro v8 w8 k8 hg8 hs8
        have HN8 := Lib.hid (happ w8 v8 hg8 hs8 (by unfold OwnPtrs; rw [List.length_append, List.length_singleton]; exact k8))
        obtain ⟨a8, c8, rfl, -⟩ := ownsRow_lies k8
        have hr8 := ((Only.of_grown hg8).block gt hDsz.2 hngt).trans hrow3
        have HI8 := Lib.hid (hinv w8 hg8)
        have HR8 := Lib.hid hr8
        clear hb3 hrow3 hown hlen hngt hinv happ hDsz hnews hg8 hs8 k8 hr8
        refine hK _ _ (fun _ => ?_) ?_
        · exact ⟨HI8.out, cell_of_row w8 gt 8 _ _ _ HR8.out⟩
        clear hK K
        try simp only [Act.put, List.setIfInBounds_toArray, List.set_cons_zero, List.set_cons_succ]
        refine anyZ_chain_at (by kernel_rfl) ?_
        simp only [List.drop_succ_cons, List.drop_zero]
        have hf8 := fun i => frozen_of_row w8 gt i _ _ HR8.out
        have hk8 := cell_of_row w8 gt 8 _ _ _ HR8.out
        obtain ⟨bs', hn8⟩ := HN8.out
        have HNZ := Lib.hid hn8
        clear HR8 HI8 HN8 hn8 HN2 HN0
        go_wp2_with fail
        go_roundw
        case rel => exact ⟨q', _, _, bs', Lib.hid (by have := HMD.out; have := hq.out; omega), Lib.hid (by have := hqn.out; rw [List.length_append, List.length_singleton]; omega), HRD, HOK2, HNZ⟩
        case measure => (rw [HNZ.out.pat.mu]; exact HMC.out)

set_option linter.unusedSimpArgs false in
set_option maxRecDepth 20000 in
set_option maxHeartbeats 3200000 in
theorem block_tok (g : Nat) (ta : Option Addr) (tc : Nat) (ts : List Tok) (B m n : Nat) (s : PS) (w : World) (hst : StmtIH g ta tc ts B m n) (hn : n ≤ 2000000) (hmu : muOf ts s ≤ n) (hok : Gr.Ok ts s) (h : Asks w g ta tc ts B s) :
    Calls Tryz.prog 65 #[.pointer (some ⟨g, 0, none⟩)] w (TreeSays g ta tc ts w (Gr.blockOf ts (Gr.stmt ts m n) n s)) := by
  have HST := Lib.hid hst
  have hn0 : NS (fun w' => Caps w' (w.heap.size + 1 + 1) w.heap.size (w.heap.size + 1) g) w (((w.alloc (.cells #[.pointer (some ⟨g, 0, none⟩)] 44)).alloc (.cells #[.int .u8 5, .string ⟨#[]⟩, .int .i64 0, .int .u8 0, .int .u64 0, .slice none 0 0, .string ⟨#[]⟩, .string ⟨#[]⟩, .slice none 0 0, .int .u64 0] 75)).alloc (.cells #[.pointer (some ⟨w.heap.size + 1, 0, none⟩)] 47)) g ta tc ts B s w.heap.size (w.heap.size + 1) 5 [] 0 0 [] [] [] [] [] [] [] := NS.start3 h 5 [] 0 0 [] []
  have hfew := h.pat.few
  have hposs : s.pos + 1 ≤ 1000000000 := by have := hok.pos; omega
  have HN0 := Lib.hid hn0
  rw [blockOf_eq]
  clear hst h hn0
  go_enter Tryz.func65, Tryz.ntmps65
  go_upto_region 2 with fail
  generalize ((w.alloc (.cells #[.pointer (some ⟨g, 0, none⟩)] 44)).alloc (.cells #[.int .u8 5, .string ⟨#[]⟩, .int .i64 0, .int .u8 0, .int .u64 0, .slice none 0 0, .string ⟨#[]⟩, .string ⟨#[]⟩, .slice none 0 0, .int .u64 0] 75)).alloc (.cells #[.pointer (some ⟨w.heap.size + 1, 0, none⟩)] 47) = W at *
  have hcap := HN0.out.holds
  have c1 := hcap.1
  have c2 := hcap.2
  clear hcap
  go_wp2_with fail
  refine (within_tok g ta tc ts s _ _ W HN0.out.pat (by have := hok.deep; omega) (fun w' => rfl) (fun _ s2 w2 => (∃ bs, NS (fun w' => Caps w' (w.heap.size + 1 + 1) w.heap.size (w.heap.size + 1) g) w w2 g ta tc ts B s2 w.heap.size (w.heap.size + 1) 5 [] 0 0 [] [] (Gr.bodyOf ts (Gr.stmt ts m n) n ⟨s.pos, s.deep + 1, false⟩).1 bs [] [] []) ∧ s2 = (Gr.bodyOf ts (Gr.stmt ts m n) n ⟨s.pos, s.deep + 1, false⟩).2) ?_).mono ?_
  · intro w' hb' hd' hp' ho'
    refine (block1_tok (fun w' => Caps w' (w.heap.size + 1 + 1) w.heap.size (w.heap.size + 1) g) w g w.heap.size (w.heap.size + 1 + 1) (w.heap.size + 1) w.heap.size ta tc ts B m n ⟨s.pos, s.deep + 1, false⟩ 5 0 [] [] [] 0 w' HST.out hn (mu_deep hmu hb') (fun _ h => h) (HN0.out.call hp' ho') (ok_deep hok hb' hd')).mono ?_
    rintro e w5 ⟨rfl, bs5, hn5⟩
    exact ⟨rfl, _, body_deep ts m n _, hn5.pat, ⟨bs5, hn5⟩, rfl⟩
  rintro e w6 ⟨rfl, hw6⟩
  have HW6 := Lib.hid hw6
  clear hw6 c1 c2
  have HEND : Hid (∃ bs, NS (fun w' => Caps w' (w.heap.size + 1 + 1) w.heap.size (w.heap.size + 1) g) w w6 g ta tc ts B (Gr.within s (Gr.bodyOf ts (Gr.stmt ts m n) n) []).2 w.heap.size (w.heap.size + 1) 5 [] 0 0 [] [] (Gr.within s (Gr.bodyOf ts (Gr.stmt ts m n) n) []).1 bs [] [] []) := Lib.hid (by
    rcases HW6.out with ⟨hno, hp6, ho6⟩ | ⟨hyes, w1, s2, w2, hp1, ho1, ⟨⟨bs2, hn2⟩, rfl⟩, hp6, ho6⟩
    · rw [within_no hno]
      exact ⟨_, HN0.out.call hp6 ho6⟩
    · rw [within_yes hyes]
      refine ⟨bs2, (hn2.call (s' := _) ?_ ho6)⟩
      show PAt w6 g ta tc ts ⟨_, (Gr.bodyOf ts (Gr.stmt ts m n) n ⟨s.pos, s.deep + 1, false⟩).2.deep - 1, _⟩
      rw [body_deep]
      exact hp6)
  obtain ⟨bs6, hn6⟩ := HEND.out
  have HNZ := Lib.hid hn6
  clear hn6 HEND HW6 HN0
  have hcap := HNZ.out.holds
  have c1 := hcap.1
  have c2 := hcap.2
  clear hcap
  go_wp2_with fail
  refine bodyPost_ret (v := .pointer (some ⟨w.heap.size + 1, 0, none⟩)) (by simp [results, Tryz.results65, go_sem]) rfl ?_
  exact ⟨_, _, rfl, HNZ.out.done, HNZ.out.pat, HNZ.out.only⟩
end Go.Proofs.YtljdphpbalioaaaGreatDoor
