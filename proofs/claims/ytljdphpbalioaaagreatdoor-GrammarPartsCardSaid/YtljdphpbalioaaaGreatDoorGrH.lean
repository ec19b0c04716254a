/- Walk: calls of functions. -/
import Derived.Test.YtljdphpbalioaaaGreatDoorGrN
namespace Go.Proofs.YtljdphpbalioaaaGreatDoor
open Go.RowKit

theorem mu_want_le (ts : List Tok) (s : PS) (x : List UInt8) : muOf ts (Gr.want1 ts s x) ≤ muOf ts s := by
  cases hb : s.bad with
  | true => rw [Gr.want1_bad hb]; exact Nat.le_refl _
  | false =>
    unfold Gr.want1
    split
    · unfold muOf
      rw [hb, show (Gr.PS.adv s).bad = false from hb]
      show ts.length + 1 - (s.pos + 1) ≤ _
      simp only [Bool.false_eq_true, if_false]
      omega
    · unfold muOf
      rw [show (Gr.PS.fail s).bad = true from rfl]
      simp
theorem mu_name_le (ts : List Tok) (s : PS) : muOf ts (Gr.name ts s).2 ≤ muOf ts s := by
  unfold Gr.name
  split
  · unfold muOf
    show (if s.bad = true then 0 else ts.length + 1 - (s.pos + 1)) ≤ _
    split <;> omega
  · unfold muOf
    rw [show (Gr.PS.fail s).bad = true from rfl]
    simp
theorem mu_deep {ts : List Tok} {s : PS} {n : Nat} (h : muOf ts s ≤ n) (hb : s.bad = false) : muOf ts ⟨s.pos, s.deep + 1, false⟩ ≤ n := by
  unfold muOf at h ⊢
  rw [hb] at h
  exact h
theorem ok_deep {ts : List Tok} {s : PS} (h : Gr.Ok ts s) (hb : s.bad = false) (hd : s.deep + 1 ≤ 90) : Gr.Ok ts ⟨s.pos, s.deep + 1, false⟩ := ⟨hd, by have := h.here hb; show s.pos ≤ _; omega, fun _ => h.here hb⟩
theorem args_deep (ts : List Tok) (n : Nat) (s : PS) : (Gr.argsOf ts (Gr.expr ts n) n s).2.deep = s.deep := ((Gr.list_keeps (ts := ts) [41] (Gr.expr_keeps n) n).deep _).trans (Gr.want1_deep _ _)
theorem within_no {α : Type} {s : PS} {f : PS → α × PS} {d : α} (h : s.bad = true ∨ 90 < s.deep + 1) : Gr.within s f d = (d, Gr.PS.fail s) := by
  unfold Gr.within
  rw [if_pos (by simpa using h)]
theorem within_yes {α : Type} {s : PS} {f : PS → α × PS} {d : α} (h : s.bad = false ∧ s.deep + 1 ≤ 90) : Gr.within s f d = ((f ⟨s.pos, s.deep + 1, false⟩).1, ⟨(f ⟨s.pos, s.deep + 1, false⟩).2.pos, (f ⟨s.pos, s.deep + 1, false⟩).2.deep - 1, (f ⟨s.pos, s.deep + 1, false⟩).2.bad⟩) := by
  unfold Gr.within
  rw [if_neg (by rw [h.1]; simp; omega)]
set_option linter.unusedSimpArgs false in
set_option maxRecDepth 20000 in
set_option maxHeartbeats 3200000 in
theorem call11_tok (I : World → Prop) (w0 : World) (g bp bt gt D : Nat) (ta : Option Addr) (tc : Nat) (ts : List Tok) (B n : Nat) (s : PS) (k typ : Nat) (name mod tgt : List UInt8) (num : Int) (kids : List Tr) (bs : List Nat) (w : World) (hih : ExprIH g ta tc ts B n) (hmu : muOf ts s ≤ n) (hI : ∀ w, I w → Caps w bt bp gt g) (h : NS I w0 w g ta tc ts B s D gt k name num typ mod tgt kids bs [] [] []) (hok : Gr.Ok ts s) (hlen : kids.length < 3000000) :
    Calls Tryz.prog 89 #[.pointer (some ⟨bt, 0, none⟩), .pointer (some ⟨bp, 0, none⟩)] w fun e w' => e = .returned (.tuple #[]) ∧
      ∃ bs, NS I w0 w' g ta tc ts B (Gr.expr ts n s).2 D gt k name num typ mod tgt (kids ++ [(Gr.expr ts n s).1]) bs [] [] [] := by
  have HIH := Lib.hid hih
  have hn0 := h.below (bdr (bre w))
  obtain ⟨kv, ps0, hrow0, -, -⟩ := hn0.box
  have hlow := hn0.low
  have hgtl := hn0.new gt (List.mem_cons_self ..)
  have HROW : Hid (∀ w', Only w.drew w' (fun k => k = g) → w'.heap[gt]? = some (.cells (boxRow k name num typ 0 (.slice none 0 0) mod tgt kv 0) 75 (0, 0))) := Lib.hid (fun w' ho => (ho.block gt hgtl.2 (fun e => by omega)).trans hrow0)
  have HSS : Hid (∀ w', Only w.drew w' (fun k => k = g) → I w' → I w' ∧ w'.cell? ⟨gt, 8, none⟩ = some kv) := Lib.hid (fun w' ho hi => ⟨hi, cell_of_row w' gt 8 _ _ _ (HROW.out w' ho)⟩)
  have HN0 := Lib.hid hn0
  clear hih h hn0 hrow0 hlow hgtl
  go_enter Tryz.func89, Tryz.ntmps89
  go_upto_region 0 with fail
  refine region_anyZ (z := 9) (S := fun w' => I w' ∧ w'.cell? ⟨gt, 8, none⟩ = some kv) (by kernel_rfl) ?_
  refine anyZ_begin (fun hcl0 => ?_)
  refine anyZ_held (by exact HSS.out _ (Only.refl _ _) HN0.out.holds) (fun hHeld => ?_)
  -- 0: Op.load 48 (Operand.tmp 0)
  refine' anyZ_take (i := 0) (v := _) rfl (by rfl) (by kernel_rfl) (by kernel_rfl) (by kernel_rfl) hcl0 8 (by kernel_rfl) (by kernel_rfl) (fun _ _ _ h => h) (Or.inl ⟨by rfl, fun w hSw => ?hz1⟩) hHeld (fun hcl1 => ?rz1)
  case hz1 => (simp only [List.getElem_toArray, List.getElem_cons_zero]; obtain ⟨hSi, hS8⟩ := hSw; obtain ⟨hS1, hS2⟩ := hI _ hSi; first | (go_simp; with_reducible rfl) | (go_simp; done) | rfl)
  simp only [List.getElem_toArray, List.getElem_cons_zero, Act.put, List.setIfInBounds_toArray, List.set_cons_zero, List.set_cons_succ]
  -- 1: Op.load 48 (Operand.tmp 0)
  refine' anyZ_take (i := 1) (v := _) rfl (by rfl) (by kernel_rfl) (by kernel_rfl) (by kernel_rfl) hcl1 8 (by kernel_rfl) (by kernel_rfl) (fun _ _ _ h => h) (Or.inl ⟨by rfl, fun w hSw => ?hz2⟩) hHeld (fun hcl2 => ?rz2)
  case hz2 => (simp only [List.getElem_toArray, List.getElem_cons_succ, List.getElem_cons_zero]; obtain ⟨hSi, hS8⟩ := hSw; obtain ⟨hS1, hS2⟩ := hI _ hSi; first | (go_simp; with_reducible rfl) | (go_simp; done) | rfl)
  simp only [List.getElem_toArray, List.getElem_cons_succ, List.getElem_cons_zero, Act.put, List.setIfInBounds_toArray, List.set_cons_zero, List.set_cons_succ]
  -- 2: Op.nilCheck (Operand.tmp 3)
  refine' anyZ_pure (i := 2) (v := _) rfl (by rfl) (by kernel_rfl) (by kernel_rfl) (by kernel_rfl) hcl2 (fun _ _ _ h => h) (Or.inl ⟨by rfl, fun w _ => ?hz3⟩) (fun _ => hHeld) (fun hcl3 => ?rz3)
  case hz3 => (simp only [List.getElem_toArray, List.getElem_cons_succ, List.getElem_cons_zero]; first | (go_simp; with_reducible rfl) | (go_simp; done) | rfl)
  simp only [List.getElem_toArray, List.getElem_cons_succ, List.getElem_cons_zero, Act.put, List.setIfInBounds_toArray, List.set_cons_zero, List.set_cons_succ]
  -- 3: Op.fieldAddr 74 (Operand.tmp 4) 3
  refine' anyZ_pure (i := 3) (v := _) rfl (by rfl) (by kernel_rfl) (by kernel_rfl) (by kernel_rfl) hcl3 (fun _ _ _ h => h) (Or.inl ⟨by rfl, fun w _ => ?hz4⟩) (fun _ => hHeld) (fun hcl4 => ?rz4)
  case hz4 => (simp only [List.getElem_toArray, List.getElem_cons_succ, List.getElem_cons_zero]; first | (go_simp; with_reducible rfl) | (go_simp; done) | rfl)
  simp only [List.getElem_toArray, List.getElem_cons_succ, List.getElem_cons_zero, Act.put, List.setIfInBounds_toArray, List.set_cons_zero, List.set_cons_succ]
  -- 4: Op.load 54 (Operand.tmp 5)
  refine' anyZ_take (i := 4) (v := _) rfl (by rfl) (by kernel_rfl) (by kernel_rfl) (by kernel_rfl) hcl4 8 (by kernel_rfl) (by kernel_rfl) (fun _ _ _ h => h) (Or.inl ⟨by rfl, fun w hSw => ?hz5⟩) hHeld (fun hcl5 => ?rz5)
  case hz5 => (simp only [List.getElem_toArray, List.getElem_cons_succ, List.getElem_cons_zero]; obtain ⟨hSi, hS8⟩ := hSw; obtain ⟨hS1, hS2⟩ := hI _ hSi; first | (go_simp; with_reducible rfl) | (go_simp; done) | rfl)
  simp only [List.getElem_toArray, List.getElem_cons_succ, List.getElem_cons_zero, Act.put, List.setIfInBounds_toArray, List.set_cons_zero, List.set_cons_succ]
  -- 5: Op.load 45 (Operand.tmp 1)
  refine' anyZ_take (i := 5) (v := _) rfl (by rfl) (by kernel_rfl) (by kernel_rfl) (by kernel_rfl) hcl5 8 (by kernel_rfl) (by kernel_rfl) (fun _ _ _ h => h) (Or.inl ⟨by rfl, fun w hSw => ?hz6⟩) hHeld (fun hcl6 => ?rz6)
  case hz6 => (simp only [List.getElem_toArray, List.getElem_cons_succ, List.getElem_cons_zero]; obtain ⟨hSi, hS8⟩ := hSw; obtain ⟨hS1, hS2⟩ := hI _ hSi; first | (go_simp; with_reducible rfl) | (go_simp; done) | rfl)
  simp only [List.getElem_toArray, List.getElem_cons_succ, List.getElem_cons_zero, Act.put, List.setIfInBounds_toArray, List.set_cons_zero, List.set_cons_succ]
  -- 6: Op.call { callee := Callee.value (Operand.func 49), args := 
  refine anyZ_one (i := 6) hcl6 (by kernel_rfl) (by simp only [List.getElem?_toArray, List.getElem?_cons_succ, List.getElem?_cons_zero]; rfl) (by rfl) (fun hcl7 K hK => ?_)
  go_simp
  refine (HIH.out s _ hmu hok.wide HN0.out.asks).mono ?_
  rintro e w2 ⟨v, b2, rfl, hd2, hp2, ho2⟩
  obtain ⟨gv, rfl⟩ := hd2.ptr
  have HN2 := Lib.hid (HN0.out.got hp2 ho2 hd2)
  have HO2 := Lib.hid ho2
  clear hd2 hp2 ho2
  refine hK _ _ (fun _ => ?_) ?_
  · exact HSS.out _ HO2.out HN2.out.holds
  clear hK K hHeld
  try simp only [Act.put, List.setIfInBounds_toArray, List.set_cons_zero, List.set_cons_succ]
  -- 7: Op.buildSlice 54 1 #[(0, Operand.tmp 8)]
  refine anyZ_one (i := 7) hcl7 (by kernel_rfl) (by simp only [List.getElem?_toArray, List.getElem?_cons_succ, List.getElem?_cons_zero]; rfl) (by rfl) (fun hcl8 K hK => ?_)
  go_simp
  refine hK _ _ (fun _ => ?_) ?_
  · exact HSS.out _ (HO2.out.trans (Only.of_below (bal (bre w2) _) _) fun _ _ h => h) (HN2.out.below (bal (bre w2) _)).holds
  clear hK K
  try simp only [Act.put, List.setIfInBounds_toArray, List.set_cons_zero, List.set_cons_succ]
  -- 8: Op.call { callee := Callee.builtin Builtin.append, args := #
  refine anyZ_one (i := 8) hcl8 (by kernel_rfl) (by simp only [List.getElem?_toArray, List.getElem?_cons_succ, List.getElem?_cons_zero]; rfl) (by rfl) (fun hcl9 K hK => ?_)
  have hb3 := bal (bre w2) (.cells #[.pointer (some ⟨gv, 0, none⟩)] 47)
  have hrow3 := HROW.out _ (HO2.out.trans (Only.of_below hb3 _) fun _ _ h => h)
  obtain ⟨ps, hown, hlen, hngt, hinv, happ⟩ := (HN2.out.below hb3).app hrow3
  have hDsz := (HN2.out.below hb3).new gt (List.mem_cons_self ..)
  have hnews : ∀ j u, [Value.pointer (some ⟨gv, 0, none⟩)][j]? = some u → (w2.alloc (.cells #[.pointer (some ⟨gv, 0, none⟩)] 47)).cell? ((⟨w2.heap.size, 0, none⟩ : Addr).add j) = some u := fun j u hu => by
    match j, hu with
    | 0, hu => cases hu; exact cell_of_row _ _ 0 _ _ _ (heap_alloc_new w2 _)
  generalize w2.alloc (.cells #[.pointer (some ⟨gv, 0, none⟩)] 47) = W3 at *
  refine wp_app' _ _ 53 47 1 8 rowPtr rfl _ _ ps.length ps rfl hown ⟨w2.heap.size, 0, none⟩ 1 1 [.pointer (some ⟨gv, 0, none⟩)] rfl rfl hnews (by simp [Value.oneCell']) (by unfold maxLen; omega) (by omega) (Nat.le_of_lt (Nat.lt_of_le_of_lt hDsz.1 hDsz.2)) ?_
  intro v8 w8 k8 hg8 hs8
  have HN8 := Lib.hid (happ w8 v8 hg8 hs8 (by unfold OwnPtrs; rw [List.length_append, List.length_singleton]; exact k8))
  obtain ⟨a8, c8, rfl, -⟩ := ownsRow_lies k8
  have hr8 := ((Only.of_grown hg8).block gt hDsz.2 hngt).trans hrow3
  have HI8 := Lib.hid (hinv w8 hg8)
  have HR8 := Lib.hid hr8
  clear hb3 hrow3 hown hlen hngt hinv happ hDsz hnews hg8 hs8 k8 hr8
  refine hK _ _ (fun _ => ?_) ?_
  · exact ⟨HI8.out, cell_of_row w8 gt 8 _ _ _ HR8.out⟩
  clear hK K
  try simp only [Act.put, List.setIfInBounds_toArray, List.set_cons_zero, List.set_cons_succ]
  refine anyZ_chain_at (by kernel_rfl) ?_
  simp only [List.drop_succ_cons, List.drop_zero]
  have hf8 := fun i => frozen_of_row w8 gt i _ _ HR8.out
  have hk8 := cell_of_row w8 gt 8 _ _ _ HR8.out
  clear HR8 HI8
  go_wp2_with fail
  obtain ⟨bs', hn8⟩ := HN8.out
  refine bodyPost_end (results_none rfl _ _ _) rfl ?_
  refine ⟨rfl, bs', ?_⟩
  exact hn8

set_option linter.unusedSimpArgs false in
set_option maxRecDepth 20000 in
set_option maxHeartbeats 3200000 in
theorem call1_tok (I : World → Prop) (w0 : World) (g bp bt gt D : Nat) (ta : Option Addr) (tc : Nat) (ts : List Tok) (B n : Nat) (s : PS) (k typ : Nat) (name mod tgt : List UInt8) (num : Int) (w : World) (hih : ExprIH g ta tc ts B n) (hn : n ≤ 2000000) (hmu : muOf ts s ≤ n) (hI : ∀ w, I w → Caps w bt bp gt g) (h : NS I w0 w g ta tc ts B s D gt k name num typ mod tgt [] [] [] [] []) (hok : Gr.Ok ts s) :
    Calls Tryz.prog 88 #[.pointer (some ⟨bp, 0, none⟩), .pointer (some ⟨bt, 0, none⟩)] w fun e w' => e = .returned (.tuple #[]) ∧
      ∃ bs, NS I w0 w' g ta tc ts B (Gr.argsOf ts (Gr.expr ts n) n s).2 D gt k name num typ mod tgt (Gr.argsOf ts (Gr.expr ts n) n s).1 bs [] [] [] := by
  have HIH := Lib.hid hih
  have HN0 := Lib.hid h
  have hcap := hI _ h.holds
  have c1 := hcap.1
  have c2 := hcap.2
  have hfew := h.pat.few
  have hposs : s.pos + 1 ≤ 1000000000 := by have := hok.pos; omega
  have hmu2 : muOf ts (Gr.want1 ts s [40]) ≤ n := Nat.le_trans (mu_want_le ts s [40]) hmu
  clear hih h hcap
  go_enter Tryz.func88, Tryz.ntmps88
  go_wp2_with fail
  have hb5 := bal (bre w) (.cells #[.string (mk8 [40])] 9)
  have hr5 := heap_alloc_new w (.cells #[.string (mk8 [40])] 9)
  have hng : w.heap.size ≠ g := fun e => by have := (Array.getElem?_eq_some_iff.1 HN0.out.pat.row).1; omega
  have hn5 := HN0.out.below hb5
  refine (want_tok g ta tc ts s [[40]] w.heap.size 1 1 _ hn5.pat rfl (by omega) (fun j x hx => ?_) hng).mono ?_
  · match j, hx with
    | 0, hx => cases hx; exact cell_of_row _ _ 0 _ _ _ hr5
  rintro e w1 ⟨rfl, h1, ho1⟩
  have hn1 := hn5.call h1 ho1
  have HN1 : Hid (NS I w0 w1 g ta tc ts B (Gr.want1 ts s [40]) D gt k name num typ mod tgt [] [] [] [] []) := Lib.hid hn1
  have hcap := hI _ hn1.holds
  have c1 := hcap.1
  have c2 := hcap.2
  have HOK1 : Hid (Gr.Ok ts (Gr.want1 ts s [40])) := Lib.hid (hok.want1 _)
  clear hb5 hr5 hng hn5 h1 ho1 hn1 hcap HN0
  go_wp2_with fail
  refine (list_tok (α := Tr) g ta tc ts (Gr.want1 ts s [40]) [41] _ _ (Gr.expr ts n) n (fun l w' => ∃ s' bs, NS I w0 w' g ta tc ts B s' D gt k name num typ mod tgt l bs [] [] []) (Gr.Ok ts) [] w1 HN1.out.pat (fun w' => rfl) ⟨_, _, HN1.out⟩ HOK1.out ?_ hmu2 ?_ ?_).mono ?_
  · exact ⟨fun s' h' => ⟨by have := h'.pos; omega, h'.here⟩, fun s' x h' hx => h'.adv (Gr.isT_here hx).2, fun s' h' => h'.fail, fun s' h' _ => ⟨(Gr.expr_keeps (ts := ts) n).ok s' h', (Gr.expr_keeps (ts := ts) n).fwd s'⟩⟩
  · rintro l w2 w3 s' ⟨s2, bs2, hn2⟩ ho hp
    exact ⟨_, _, hn2.call hp ho⟩
  · rintro l s' w' hp' hok' hbad' ⟨s2, bs2, hn2⟩ hmu' hl
    refine (call11_tok I w0 g bp bt gt D ta tc ts B n s' k typ name mod tgt num l bs2 w' HIH.out hmu' hI (hn2.call hp' (Only.refl _ _)) hok' (by rw [List.length_nil] at hl; omega)).mono ?_
    rintro e w3 ⟨rfl, bs3, hn3⟩
    exact ⟨rfl, hn3.pat, _, _, hn3⟩
  rintro e w4 ⟨rfl, hp4, s4, bs4, hn4⟩
  have HN4 := Lib.hid (hn4.call hp4 (Only.refl _ _))
  clear hp4 hn4 c1 c2
  go_wp2_with fail
  refine bodyPost_end (results_none rfl _ _ _) rfl ?_
  exact ⟨rfl, _, HN4.out⟩

set_option linter.unusedSimpArgs false in
set_option maxRecDepth 20000 in
set_option maxHeartbeats 3200000 in
theorem call_tok (g : Nat) (ta : Option Addr) (tc : Nat) (ts : List Tok) (B n : Nat) (s : PS) (mod : List UInt8) (w : World) (hih : ExprIH g ta tc ts B n) (hn : n ≤ 2000000) (hmu : muOf ts s ≤ n) (hok : Gr.Ok ts s) (h : Asks w g ta tc ts B s) :
    Calls Tryz.prog 66 #[.pointer (some ⟨g, 0, none⟩), .string (mk8 mod)] w (TreeSays g ta tc ts w (Gr.callOf ts (Gr.expr ts n) n mod s)) := by
  have HIH := Lib.hid hih
  have hn0 : NS (fun w' => Caps w' (w.heap.size + 1 + 1) w.heap.size (w.heap.size + 1) g) w (((w.alloc (.cells #[.pointer (some ⟨g, 0, none⟩)] 44)).alloc (.cells #[.int .u8 19, .string ⟨#[]⟩, .int .i64 0, .int .u8 0, .int .u64 0, .slice none 0 0, .string (mk8 mod), .string ⟨#[]⟩, .slice none 0 0, .int .u64 0] 75)).alloc (.cells #[.pointer (some ⟨w.heap.size + 1, 0, none⟩)] 47)) g ta tc ts B s w.heap.size (w.heap.size + 1) 19 [] 0 0 mod [] [] [] [] [] [] := NS.start3 h 19 [] 0 0 mod []
  have hfew := h.pat.few
  have hposs : s.pos + 1 ≤ 1000000000 := by have := hok.pos; omega
  have hpos1 : (Gr.want1 ts s [46]).pos ≤ 1000000000 := by have := want1_pos ts s [46]; omega
  have hok1 := hok.want1 [46]
  have hok2 := Gr.name_keeps.ok _ hok1
  have hmu2 : muOf ts (Gr.name ts (Gr.want1 ts s [46])).2 ≤ n := Nat.le_trans (mu_name_le ts _) (Nat.le_trans (mu_want_le ts s [46]) hmu)
  have HN0 := Lib.hid hn0
  have HR : Hid (Gr.callOf ts (Gr.expr ts n) n mod s = (.mk 19 [] 0 0 mod (Gr.name ts (Gr.want1 ts s [46])).1 (Gr.within (Gr.name ts (Gr.want1 ts s [46])).2 (Gr.argsOf ts (Gr.expr ts n) n) []).1, (Gr.within (Gr.name ts (Gr.want1 ts s [46])).2 (Gr.argsOf ts (Gr.expr ts n) n) []).2)) := Lib.hid rfl
  obtain ⟨M, hM⟩ : ∃ M, M = Gr.name ts (Gr.want1 ts s [46]) := ⟨_, rfl⟩
  rw [← hM] at hok2 hmu2 HR
  have HM := Lib.hid hM
  clear hih h hn0 hM
  go_enter Tryz.func66, Tryz.ntmps66
  go_upto_region 2 with fail
  generalize ((w.alloc (.cells #[.pointer (some ⟨g, 0, none⟩)] 44)).alloc (.cells #[.int .u8 19, .string ⟨#[]⟩, .int .i64 0, .int .u8 0, .int .u64 0, .slice none 0 0, .string (mk8 mod), .string ⟨#[]⟩, .slice none 0 0, .int .u64 0] 75)).alloc (.cells #[.pointer (some ⟨w.heap.size + 1, 0, none⟩)] 47) = W at *
  have hcap := HN0.out.holds
  have c1 := hcap.1
  have c2 := hcap.2
  clear hcap
  go_wp2_with fail
  have hb5 := bal (bre W) (.cells #[.string (mk8 [46])] 9)
  have hr5 := heap_alloc_new W (.cells #[.string (mk8 [46])] 9)
  have hng : W.heap.size ≠ g := fun e => by have := (Array.getElem?_eq_some_iff.1 HN0.out.pat.row).1; omega
  have hn5 := HN0.out.below hb5
  refine (want_tok g ta tc ts s [[46]] W.heap.size 1 1 _ hn5.pat rfl (by omega) (fun j x hx => ?_) hng).mono ?_
  · match j, hx with
    | 0, hx => cases hx; exact cell_of_row _ _ 0 _ _ _ hr5
  rintro e W1 ⟨rfl, h1, ho1⟩
  have HN1 : Hid (NS (fun w' => Caps w' (w.heap.size + 1 + 1) w.heap.size (w.heap.size + 1) g) w W1 g ta tc ts B (Gr.want1 ts s [46]) w.heap.size (w.heap.size + 1) 19 [] 0 0 mod [] [] [] [] [] []) := Lib.hid (hn5.call h1 ho1)
  clear hb5 hr5 hng hn5 h1 ho1 HN0
  have HN2 := Lib.hid (HN1.out.below (bdr (bre W1)))
  clear HN1 c1 c2
  go_upto_region 3 with fail
  refine region_anyZ (z := 3) (S := fun w' => Caps w' (w.heap.size + 2) w.heap.size (w.heap.size + 1) g) (by kernel_rfl) ?_
  refine anyZ_begin (fun hcl0 => ?_)
  refine anyZ_held (by exact HN2.out.holds) (fun hHeld => ?_)
  -- 0: Op.load 48 (Operand.tmp 5)
  refine' anyZ_take (i := 0) (v := _) rfl (by rfl) (by kernel_rfl) (by kernel_rfl) (by kernel_rfl) hcl0 8 (by kernel_rfl) (by kernel_rfl) (fun _ _ _ h => h) (Or.inl ⟨by rfl, fun w hSw => ?hz1⟩) hHeld (fun hcl1 => ?rz1)
  case hz1 => (simp only [List.getElem_toArray, List.getElem_cons_zero]; obtain ⟨hS1, hS2⟩ := hSw; first | (go_simp; with_reducible rfl) | (go_simp; done) | rfl)
  simp only [List.getElem_toArray, List.getElem_cons_zero, Act.put, List.setIfInBounds_toArray, List.set_cons_zero, List.set_cons_succ]
  -- 1: Op.load 45 (Operand.tmp 2)
  refine' anyZ_take (i := 1) (v := _) rfl (by rfl) (by kernel_rfl) (by kernel_rfl) (by kernel_rfl) hcl1 8 (by kernel_rfl) (by kernel_rfl) (fun _ _ _ h => h) (Or.inl ⟨by rfl, fun w hSw => ?hz2⟩) hHeld (fun hcl2 => ?rz2)
  case hz2 => (simp only [List.getElem_toArray, List.getElem_cons_succ, List.getElem_cons_zero]; obtain ⟨hS1, hS2⟩ := hSw; first | (go_simp; with_reducible rfl) | (go_simp; done) | rfl)
  simp only [List.getElem_toArray, List.getElem_cons_succ, List.getElem_cons_zero, Act.put, List.setIfInBounds_toArray, List.set_cons_zero, List.set_cons_succ]
  -- 2: Op.call { callee := Callee.value (Operand.func 26), args := 
  refine anyZ_one (i := 2) hcl2 (by kernel_rfl) (by simp only [List.getElem?_toArray, List.getElem?_cons_succ, List.getElem?_cons_zero]; rfl) (by rfl) (fun hcl3 K hK => ?_)
  go_simp
  refine (name_tok g ta tc ts (Gr.want1 ts s [46]) _ HN2.out.pat hpos1).mono ?_
  rintro e w3 ⟨rfl, hp3, ho3⟩
  have HN3 := Lib.hid (HN2.out.call hp3 ho3)
  clear hp3 ho3
  refine hK _ _ (fun _ => ?_) ?_
  · exact HN3.out.holds
  clear hK K hHeld
  try simp only [Act.put, List.setIfInBounds_toArray, List.set_cons_zero, List.set_cons_succ]
  refine anyZ_chain_at (by kernel_rfl) ?_
  simp only [List.drop_succ_cons, List.drop_zero]
  rw [← HM.out]
  obtain ⟨kv3, ps3, hrow3, -, -⟩ := HN3.out.box
  have hfz := fun i => frozen_of_row _ _ i _ _ hrow3
  have k7 := cell_of_row _ _ 7 _ _ _ hrow3
  have hn4 := HN3.out.target M.1
  rw [← HM.out] at hn4
  clear hrow3 HN3 HN2
  go_upto_region 4 with fail
  generalize w3.setCell ⟨w.heap.size + 1, 7, none⟩ (.string (mk8 M.1)) = W4 at *
  have HN4 := Lib.hid hn4
  have hcap := HN4.out.holds
  have c1 := hcap.1
  have c2 := hcap.2
  clear hfz k7 hn4 hcap
  go_wp2_with fail
  refine (within_tok g ta tc ts M.2 _ _ W4 HN4.out.pat (by have := hok2.deep; omega) (fun w' => rfl) (fun _ s2 w2 => (∃ bs, NS (fun w' => Caps w' (w.heap.size + 1 + 1) w.heap.size (w.heap.size + 1) g) w w2 g ta tc ts B s2 w.heap.size (w.heap.size + 1) 19 [] 0 0 mod M.1 (Gr.argsOf ts (Gr.expr ts n) n ⟨M.2.pos, M.2.deep + 1, false⟩).1 bs [] [] []) ∧ s2 = (Gr.argsOf ts (Gr.expr ts n) n ⟨M.2.pos, M.2.deep + 1, false⟩).2) ?_).mono ?_
  · intro w' hb' hd' hp' ho'
    refine (call1_tok (fun w' => Caps w' (w.heap.size + 1 + 1) w.heap.size (w.heap.size + 1) g) w g w.heap.size (w.heap.size + 1 + 1) (w.heap.size + 1) w.heap.size ta tc ts B n ⟨M.2.pos, M.2.deep + 1, false⟩ 19 0 [] mod M.1 0 w' HIH.out hn (mu_deep hmu2 hb') (fun _ h => h) (HN4.out.call hp' ho') (ok_deep hok2 hb' hd')).mono ?_
    rintro e w5 ⟨rfl, bs5, hn5⟩
    exact ⟨rfl, _, args_deep ts n _, hn5.pat, ⟨bs5, hn5⟩, rfl⟩
  rintro e w6 ⟨rfl, hw6⟩
  have HW6 := Lib.hid hw6
  clear hw6
  have HEND : Hid (∃ bs, NS (fun w' => Caps w' (w.heap.size + 1 + 1) w.heap.size (w.heap.size + 1) g) w w6 g ta tc ts B (Gr.within M.2 (Gr.argsOf ts (Gr.expr ts n) n) []).2 w.heap.size (w.heap.size + 1) 19 [] 0 0 mod M.1 (Gr.within M.2 (Gr.argsOf ts (Gr.expr ts n) n) []).1 bs [] [] []) := Lib.hid (by
    rcases HW6.out with ⟨hno, hp6, ho6⟩ | ⟨hyes, w1, s2, w2, hp1, ho1, ⟨⟨bs2, hn2⟩, rfl⟩, hp6, ho6⟩
    · rw [within_no hno]
      exact ⟨_, HN4.out.call hp6 ho6⟩
    · rw [within_yes hyes]
      refine ⟨bs2, (hn2.call (s' := _) ?_ ho6)⟩
      show PAt w6 g ta tc ts ⟨_, (Gr.argsOf ts (Gr.expr ts n) n ⟨M.2.pos, M.2.deep + 1, false⟩).2.deep - 1, _⟩
      rw [args_deep]
      exact hp6)
  obtain ⟨bs6, hn6⟩ := HEND.out
  have hcap := hn6.holds
  have c1 := hcap.1
  have c2 := hcap.2
  have HN6 := Lib.hid hn6
  clear hcap hn6 HEND HW6 HN4
  go_wp2_with fail
  refine bodyPost_ret (v := .pointer (some ⟨w.heap.size + 1, 0, none⟩)) (by simp [results, Tryz.results66, go_sem]) rfl ?_
  rw [HR.out]
  exact ⟨_, _, rfl, HN6.out.done, HN6.out.pat, HN6.out.only⟩
end Go.Proofs.YtljdphpbalioaaaGreatDoor
