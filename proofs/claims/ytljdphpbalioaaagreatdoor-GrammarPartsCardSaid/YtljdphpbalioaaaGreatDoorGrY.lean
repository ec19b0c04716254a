/- Walk: a statement. -/
import Derived.Test.YtljdphpbalioaaaGreatDoorGrS
namespace Go.Proofs.YtljdphpbalioaaaGreatDoor
open Go.RowKit

theorem mu_top {ts : List Tok} {m : Nat} (hm : ts.length + 1 ≤ m) (s : PS) : muOf ts s ≤ m := by
  unfold muOf
  split <;> omega
theorem mu_keeps {α : Type} {ts : List Tok} {f : PS → α × PS} (hf : Gr.Keeps ts f) (hb : ∀ s, s.bad = true → (f s).2.bad = true) (s : PS) : muOf ts (f s).2 ≤ muOf ts s := by
  have h1 := hf.fwd s
  unfold muOf
  cases hs : s.bad with
  | true => rw [hb s hs]; simp
  | false => split <;> simp <;> omega
theorem mu_expr_le {ts : List Tok} {m : Nat} (s : PS) : muOf ts (Gr.expr ts m s).2 ≤ muOf ts s := mu_keeps (Gr.expr_keeps m) (fun s h => by rw [Gr.expr_bad h]; exact h) s
theorem blockOf_bad {ts : List Tok} {m : Nat} (n : Nat) (s : PS) (h : s.bad = true) : (Gr.blockOf ts (Gr.stmt ts m n) n s).2.bad = true := by
  rw [blockOf_eq, within_no (.inl h)]
  rfl
theorem setCell_swap (w : World) (b i j : Nat) (u v : Value) (h : i ≠ j) : (w.setCell ⟨b, i, none⟩ u).setCell ⟨b, j, none⟩ v = (w.setCell ⟨b, j, none⟩ v).setCell ⟨b, i, none⟩ u := by
  have e : ((w.setCell ⟨b, i, none⟩ u).setCell ⟨b, j, none⟩ v).heap = ((w.setCell ⟨b, j, none⟩ v).setCell ⟨b, i, none⟩ u).heap := by
    apply Array.ext_getElem?
    intro k
    simp only [World.setCell, Array.getElem?_modify]
    by_cases hk : b = k
    · subst hk
      simp only [if_true, Option.map_map]
      congr 1
      funext o
      cases o <;> simp [Array.setIfInBounds_comm _ _ h]
    · simp only [if_neg hk]
  unfold World.setCell at e ⊢
  simp only at e ⊢
  rw [e]
theorem NS.kindrow {I : World → Prop} {w0 w : World} {g : Nat} {ta : Option Addr} {tc : Nat} {ts : List Tok} {B : Nat} {s : PS} {D gt k typ : Nat} {name mod tgt : List UInt8} {num : Int} {v : Value} {t : Tr} {pb : List Nat} (h : NS I w0 w g ta tc ts B s D gt k name num typ mod tgt [] [] [v] [t] pb) (k' : Nat) :
    NS I w0 (((w.alloc (.cells #[v] 47)).setCell ⟨gt, 0, none⟩ (.int .u8 k')).setCell ⟨gt, 8, none⟩ (.slice (some ⟨w.heap.size, 0, none⟩) 1 1)) g ta tc ts B s D gt k' name num typ mod tgt [t] (w.heap.size :: pb) [] [] [] := by
  have h1 := (h.rowed 1 rfl (by decide)).kind k'
  have e : ((w.alloc (.cells [v].toArray 47)).setCell ⟨gt, 8, none⟩ (.slice (some ⟨w.heap.size, 0, none⟩) 1 1)).setCell ⟨gt, 0, none⟩ (.int .u8 k') = ((w.alloc (.cells #[v] 47)).setCell ⟨gt, 0, none⟩ (.int .u8 k')).setCell ⟨gt, 8, none⟩ (.slice (some ⟨w.heap.size, 0, none⟩) 1 1) := setCell_swap _ gt 8 0 _ _ (by decide)
  rw [e] at h1
  exact h1

set_option linter.unusedSimpArgs false in
set_option maxRecDepth 20000 in
set_option maxHeartbeats 3200000 in
theorem stmt_walk (g : Nat) (ta : Option Addr) (tc : Nat) (ts : List Tok) (B m n : Nat) (s : PS) (w : World) (hst : StmtIH g ta tc ts B m n) (hm : ts.length + 1 ≤ m) (hm2 : m ≤ 2000000) (hn : n ≤ 2000000) (hmu : muOf ts s ≤ n + 1) (hok : Gr.Ok ts s) (hT : TokOk ts) (h : Asks w g ta tc ts B s) :
    Calls Tryz.prog 49 #[.pointer (some ⟨g, 0, none⟩)] w (TreeSays g ta tc ts w (Gr.stmt ts m (n + 1) s)) := by
  have HST := Lib.hid hst
  have HEX := Lib.hid (expr_any g ta tc ts B hT m hm2)
  have HM := Lib.hid (And.intro hm (And.intro hm2 hn))
  have hg := (Array.getElem?_eq_some_iff.1 h.pat.row).1
  have hn0 : NS (fun _ => True) w (w.alloc (.cells #[.int .u8 0, .string ⟨#[]⟩, .int .i64 0, .int .u8 0, .int .u64 0, .slice none 0 0, .string ⟨#[]⟩, .string ⟨#[]⟩, .slice none 0 0, .int .u64 0] 75)) g ta tc ts B s w.heap.size w.heap.size 0 [] 0 0 [] [] [] [] [] [] [] := NS.first h.pat h.tb (Only.refl _ _) ⟨h.big, hg, h.low⟩ h.hta 0 [] 0 0 [] []
  have hfew := h.pat.few
  have hpos : s.pos ≤ 1000000000 := by have := hok.pos; omega
  have HOK := Lib.hid hok
  have HMU := Lib.hid hmu
  have HNC := Lib.hid hn0
  obtain ⟨R, hR⟩ : ∃ R, R = Gr.stmt ts m (n + 1) s := ⟨_, rfl⟩
  rw [← hR]
  have HR := Lib.hid hR
  clear hst h hn0 hok hT hmu hR hg hm hm2 hn
  go_enter Tryz.func49, Tryz.ntmps49
  go_upto_region 5 with fail
  generalize w.alloc (.cells #[.int .u8 0, .string ⟨#[]⟩, .int .i64 0, .int .u8 0, .int .u64 0, .slice none 0 0, .string ⟨#[]⟩, .string ⟨#[]⟩, .slice none 0 0, .int .u64 0] 75) = W at *
  go_wp2_with fail
  refine (take_tok g ta tc ts s Gr.wLet _ HNC.out.pat hpos).mono ?_
  rintro e wt ⟨rfl, ht1, ho1⟩
  obtain ⟨b, hb⟩ : ∃ b, b = Gr.isT ts s Gr.wLet := ⟨_, rfl⟩
  rw [← hb]
  have HB0 : Hid (Gr.isT ts s Gr.wLet = b) := Lib.hid hb.symm
  have HNT := Lib.hid (HNC.out.call ht1 ho1)
  clear hb ht1 ho1 HNC
  cases b with
  | true =>
    have HHERE : Hid (s.bad = false ∧ s.pos < ts.length) := Lib.hid (Gr.isT_here HB0.out)
    rw [take_yes HB0.out] at HNT
    have HA : Hid (Gr.Ok ts (Gr.PS.adv s)) := Lib.hid (HOK.out.adv HHERE.out.2)
    have HA1 : Hid (Gr.Ok ts (Gr.name ts (Gr.PS.adv s)).2) := Lib.hid (Gr.name_keeps.ok _ HA.out)
    have HA2 : Hid (Gr.Ok ts (Gr.types ts (Gr.name ts (Gr.PS.adv s)).2).2) := Lib.hid (Gr.types_keeps.ok _ HA1.out)
    have HA3 : Hid (Gr.Ok ts (Gr.want1 ts (Gr.types ts (Gr.name ts (Gr.PS.adv s)).2).2 [61])) := Lib.hid (HA2.out.want1 _)
    have HA4 : Hid (Gr.Ok ts (Gr.expr ts m (Gr.want1 ts (Gr.types ts (Gr.name ts (Gr.PS.adv s)).2).2 [61])).2) := Lib.hid ((Gr.expr_keeps m).ok _ HA3.out)
    go_wp2_with fail
    refine (name_tok g ta tc ts (Gr.PS.adv s) _ HNT.out.pat (by have := HA.out.pos; omega)).mono ?_
    rintro e w3 ⟨rfl, hp3, ho3⟩
    have HN3 := Lib.hid (HNT.out.call hp3 ho3)
    clear hp3 ho3 HNT
    obtain ⟨N, hN⟩ : ∃ N, N = Gr.name ts (Gr.PS.adv s) := ⟨_, rfl⟩
    rw [← hN] at HN3 HA1 HA2 HA3 HA4 ⊢
    have HNM := Lib.hid hN
    clear hN
    obtain ⟨kvb, psb, hrowb, -, -⟩ := HN3.out.box
    have hfz := fun i => frozen_of_row _ w.heap.size i _ _ hrowb
    have b0 := cell_of_row _ w.heap.size 0 _ _ _ hrowb
    have b1 := cell_of_row _ w.heap.size 1 _ _ _ hrowb
    clear hrowb
    have hn4 := (HN3.out.kind 6).named N.1
    clear HN3
    go_upto_region 7 with fail
    generalize (w3.setCell ⟨w.heap.size, 0, none⟩ (.int .u8 6)).setCell ⟨w.heap.size, 1, none⟩ (.string (mk8 N.1)) = w4 at *
    have HN4 := Lib.hid hn4
    clear hn4 hfz b0 b1
    go_wp2_with fail
    refine (types_tok g ta tc ts N.2 _ HN4.out.pat (by have := HA1.out.pos; omega)).mono ?_
    rintro e w5 ⟨rfl, hp3, ho3⟩
    have HN5 := Lib.hid (HN4.out.call hp3 ho3)
    clear hp3 ho3 HN4
    obtain ⟨Y, hY⟩ : ∃ Y, Y = Gr.types ts N.2 := ⟨_, rfl⟩
    rw [← hY] at HN5 HA2 HA3 HA4 ⊢
    have HYM := Lib.hid hY
    clear hY
    obtain ⟨kvb, psb, hrowb, -, -⟩ := HN5.out.box
    have hfz := fun i => frozen_of_row _ w.heap.size i _ _ hrowb
    have b3 := cell_of_row _ w.heap.size 3 _ _ _ hrowb
    clear hrowb
    have hn6 := HN5.out.typed Y.1
    clear HN5
    go_upto_region 8 with fail
    generalize w5.setCell ⟨w.heap.size, 3, none⟩ (.int .u8 (Y.1 : Nat)) = w6 at *
    have HN6 := Lib.hid hn6
    clear hn6 hfz b3
    go_wp2_with fail
    have hb5 := bal (bre w6) (.cells #[.string (mk8 [61])] 9)
    have hr5 := heap_alloc_new w6 (.cells #[.string (mk8 [61])] 9)
    have hng : w6.heap.size ≠ g := fun e => by have := (Array.getElem?_eq_some_iff.1 HN6.out.pat.row).1; omega
    have hn5 := HN6.out.below hb5
    refine (want_tok g ta tc ts Y.2 [[61]] w6.heap.size 1 1 _ hn5.pat rfl (by have := HA2.out.pos; omega) (fun j x hx => ?_) hng).mono ?_
    · match j, hx with
      | 0, hx => cases hx; exact cell_of_row _ _ 0 _ _ _ hr5
    rintro e w2 ⟨rfl, h1, ho1⟩
    have HW1 : Hid (NS (fun _ => True) w w2 g ta tc ts B (Gr.want1 ts Y.2 [61]) w.heap.size w.heap.size 6 N.1 0 Y.1 [] [] [] [] [] [] []) := Lib.hid (hn5.call h1 ho1)
    clear hb5 hr5 hng hn5 h1 ho1 HN6
    go_wp2_with fail
    refine (HEX.out (Gr.want1 ts Y.2 [61]) _ (mu_top HM.out.1 _) HA3.out.wide HW1.out.asks).mono ?_
    rintro e we1 ⟨ve1, be1, rfl, hde, hpe, hoe⟩
    obtain ⟨ge1, rfl⟩ := hde.ptr
    have HE1 := Lib.hid (HW1.out.got hpe hoe hde)
    clear hde hpe hoe HW1
    obtain ⟨E, hE⟩ : ∃ E, E = Gr.expr ts m (Gr.want1 ts Y.2 [61]) := ⟨_, rfl⟩
    rw [← hE] at HE1 HA4
    have HEM := Lib.hid hE
    clear hE
    have hn8 : NS (fun _ => True) w ((we1.alloc (.cells #[.pointer (some ⟨ge1, 0, none⟩)] 47)).setCell ⟨w.heap.size, 8, none⟩ (.slice (some ⟨we1.heap.size, 0, none⟩) 1 1)) g ta tc ts B E.2 w.heap.size w.heap.size 6 N.1 0 Y.1 [] [] [E.1] (we1.heap.size :: ([] ++ be1)) [] [] [] := HE1.out.rowed 1 rfl (by decide)
    obtain ⟨kv7, ps7, hrow7, -, -⟩ := (HE1.out.below (bal (bre we1) (.cells #[.pointer (some ⟨ge1, 0, none⟩)] 47))).box
    have hfz := fun i => frozen_of_row _ w.heap.size i _ _ hrow7
    have k8 := cell_of_row _ w.heap.size 8 _ _ _ hrow7
    clear hrow7 HE1
    go_upto_region 24 with fail
    generalize (we1.alloc (.cells #[.pointer (some ⟨ge1, 0, none⟩)] 47)).setCell ⟨w.heap.size, 8, none⟩ (.slice (some ⟨we1.heap.size, 0, none⟩) 1 1) = w9 at *
    have HR1 := Lib.hid hn8
    clear hn8 hfz k8
    go_wp2_with fail
    have hb5 := bal (bre w9) (.cells #[.string (mk8 [59])] 9)
    have hr5 := heap_alloc_new w9 (.cells #[.string (mk8 [59])] 9)
    have hng : w9.heap.size ≠ g := fun e => by have := (Array.getElem?_eq_some_iff.1 HR1.out.pat.row).1; omega
    have hn5 := HR1.out.below hb5
    refine (want_tok g ta tc ts E.2 [[59]] w9.heap.size 1 1 _ hn5.pat rfl (by have := HA4.out.pos; omega) (fun j x hx => ?_) hng).mono ?_
    · match j, hx with
      | 0, hx => cases hx; exact cell_of_row _ _ 0 _ _ _ hr5
    rintro e w4 ⟨rfl, h1, ho1⟩
    have HW3 : Hid (NS (fun _ => True) w w4 g ta tc ts B (Gr.want1 ts E.2 [59]) w.heap.size w.heap.size 6 N.1 0 Y.1 [] [] [E.1] (we1.heap.size :: ([] ++ be1)) [] [] []) := Lib.hid (hn5.call h1 ho1)
    clear hb5 hr5 hng hn5 h1 ho1 HR1
    go_wp2_with fail
    refine bodyPost_ret (v := .pointer (some ⟨w.heap.size, 0, none⟩)) (by simp [results, Tryz.results49, go_sem]) rfl ?_
    rw [HR.out, stmt_let HB0.out, ← HNM.out, ← HYM.out, ← HEM.out]
    exact ⟨_, _, rfl, HW3.out.done, HW3.out.pat, HW3.out.only⟩
  | false =>
    rw [take_no HB0.out] at HNT
    have HNC := HNT
    clear HNT
    go_wp2_with fail
    refine (take_tok g ta tc ts s Gr.wIf _ HNC.out.pat hpos).mono ?_
    rintro e wt ⟨rfl, ht1, ho1⟩
    obtain ⟨b, hb⟩ : ∃ b, b = Gr.isT ts s Gr.wIf := ⟨_, rfl⟩
    rw [← hb]
    have HB1 : Hid (Gr.isT ts s Gr.wIf = b) := Lib.hid hb.symm
    have HNT := Lib.hid (HNC.out.call ht1 ho1)
    clear hb ht1 ho1 HNC
    cases b with
    | true =>
      have HHERE : Hid (s.bad = false ∧ s.pos < ts.length) := Lib.hid (Gr.isT_here HB1.out)
      rw [take_yes HB1.out] at HNT
      have HA : Hid (Gr.Ok ts (Gr.PS.adv s)) := Lib.hid (HOK.out.adv HHERE.out.2)
      have HA4 : Hid (Gr.Ok ts (Gr.expr ts m (Gr.PS.adv s)).2) := Lib.hid ((Gr.expr_keeps m).ok _ HA.out)
      obtain ⟨kvb, psb, hrowb, -, -⟩ := HNT.out.box
      have hfz := fun i => frozen_of_row _ w.heap.size i _ _ hrowb
      have b0 := cell_of_row _ w.heap.size 0 _ _ _ hrowb
      clear hrowb
      have hn4 := HNT.out.kind 8
      clear HNT
      go_upto_region 12 with fail
      generalize wt.setCell ⟨w.heap.size, 0, none⟩ (.int .u8 8) = w4 at *
      have HN4 := Lib.hid hn4
      clear hn4 hfz b0
      go_wp2_with fail
      refine (HEX.out (Gr.PS.adv s) _ (mu_top HM.out.1 _) HA.out.wide HN4.out.asks).mono ?_
      rintro e we1 ⟨ve1, be1, rfl, hde, hpe, hoe⟩
      obtain ⟨ge1, rfl⟩ := hde.ptr
      have HE1 := Lib.hid (HN4.out.got hpe hoe hde)
      clear hde hpe hoe HN4
      obtain ⟨E, hE⟩ : ∃ E, E = Gr.expr ts m (Gr.PS.adv s) := ⟨_, rfl⟩
      rw [← hE] at HE1 HA4
      have HEM := Lib.hid hE
      have HMU1 : Hid (muOf ts E.2 ≤ n) := Lib.hid (by rw [hE]; exact Nat.le_trans (mu_expr_le _) (mu_adv HHERE.out.1 HHERE.out.2 HMU.out))
      clear hE
      go_wp2_with fail
      refine (block_tok g ta tc ts B m n E.2 _ HST.out HM.out.2.2 HMU1.out HA4.out HE1.out.asks).mono ?_
      rintro e wk1 ⟨vk1, bk1, rfl, hde, hpe, hoe⟩
      obtain ⟨gk1, rfl⟩ := hde.ptr
      have HK1 := Lib.hid (HE1.out.got hpe hoe hde)
      clear hde hpe hoe HE1
      obtain ⟨K1, hK1⟩ : ∃ K, K = Gr.blockOf ts (Gr.stmt ts m n) n E.2 := ⟨_, rfl⟩
      rw [← hK1] at HK1
      have HKM1 := Lib.hid hK1
      have HA5 : Hid (Gr.Ok ts K1.2) := Lib.hid (by rw [hK1]; exact (Gr.blockOf_keeps (Gr.stmt_keeps m n) n).ok _ HA4.out)
      have HMU2 : Hid (muOf ts (Gr.want1 ts K1.2 Gr.wElse) ≤ n) := Lib.hid (Nat.le_trans (mu_want_le _ _ _) (by rw [hK1]; exact Nat.le_trans (mu_keeps (Gr.blockOf_keeps (Gr.stmt_keeps m n) n) (blockOf_bad (m := m) n) _) HMU1.out))
      have HA6 : Hid (Gr.Ok ts (Gr.want1 ts K1.2 Gr.wElse)) := Lib.hid (HA5.out.want1 _)
      clear hK1
      have hn8 : NS (fun _ => True) w ((wk1.alloc (.cells #[.pointer (some ⟨ge1, 0, none⟩), .pointer (some ⟨gk1, 0, none⟩)] 47)).setCell ⟨w.heap.size, 8, none⟩ (.slice (some ⟨wk1.heap.size, 0, none⟩) 2 2)) g ta tc ts B K1.2 w.heap.size w.heap.size 8 [] 0 0 [] [] [E.1, K1.1] (wk1.heap.size :: (([] ++ be1) ++ bk1)) [] [] [] := HK1.out.rowed 2 rfl (by decide)
      obtain ⟨kv7, ps7, hrow7, -, -⟩ := (HK1.out.below (bal (bre wk1) (.cells #[.pointer (some ⟨ge1, 0, none⟩), .pointer (some ⟨gk1, 0, none⟩)] 47))).box
      have hfz := fun i => frozen_of_row _ w.heap.size i _ _ hrow7
      have k8 := cell_of_row _ w.heap.size 8 _ _ _ hrow7
      clear hrow7 HK1
      go_upto_region 13 with fail
      generalize (wk1.alloc (.cells #[.pointer (some ⟨ge1, 0, none⟩), .pointer (some ⟨gk1, 0, none⟩)] 47)).setCell ⟨w.heap.size, 8, none⟩ (.slice (some ⟨wk1.heap.size, 0, none⟩) 2 2) = w9 at *
      have HR1 := Lib.hid hn8
      clear hn8 hfz k8
      go_wp2_with fail
      have hb5 := bal (bre w9) (.cells #[.string (mk8 Gr.wElse)] 9)
      have hr5 := heap_alloc_new w9 (.cells #[.string (mk8 Gr.wElse)] 9)
      have hng : w9.heap.size ≠ g := fun e => by have := (Array.getElem?_eq_some_iff.1 HR1.out.pat.row).1; omega
      have hn5 := HR1.out.below hb5
      refine (want_tok g ta tc ts K1.2 [Gr.wElse] w9.heap.size 1 1 _ hn5.pat rfl (by have := HA5.out.pos; omega) (fun j x hx => ?_) hng).mono ?_
      · match j, hx with
        | 0, hx => cases hx; exact cell_of_row _ _ 0 _ _ _ hr5
      rintro e w6 ⟨rfl, h1, ho1⟩
      have HW5 : Hid (NS (fun _ => True) w w6 g ta tc ts B (Gr.want1 ts K1.2 Gr.wElse) w.heap.size w.heap.size 8 [] 0 0 [] [] [E.1, K1.1] (wk1.heap.size :: (([] ++ be1) ++ bk1)) [] [] []) := Lib.hid (hn5.call h1 ho1)
      clear hb5 hr5 hng hn5 h1 ho1 HR1
      have hn0 := HW5.out.below (bdr (bre w6))
      obtain ⟨W, hW⟩ : ∃ W, W = w6 := ⟨_, rfl⟩
      rw [← hW] at hn0 ⊢
      clear hW
      obtain ⟨kv, ps0, hrow0, -, -⟩ := hn0.box
      have hlow := hn0.low
      have hgtl := hn0.new w.heap.size (List.mem_cons_self ..)
      have HROW : Hid (∀ w', Only W.drew w' (fun k => k = g) → w'.heap[w.heap.size]? = some (.cells (boxRow 8 [] 0 0 0 (.slice none 0 0) [] [] kv 0) 75 (0, 0))) := Lib.hid (fun w' ho => (ho.block w.heap.size hgtl.2 (fun e => by omega)).trans hrow0)
      have HSS : Hid (∀ w', Only W.drew w' (fun k => k = g) → True → w'.cell? ⟨w.heap.size, 8, none⟩ = some kv) := Lib.hid (fun w' ho _ => cell_of_row w' w.heap.size 8 _ _ _ (HROW.out w' ho))
      have HN0 := Lib.hid hn0
      have hlen : [E.1, K1.1].length < 3000000 := (show 2 < 3000000 by decide)
      clear hn0 hrow0 hlow hgtl HW5
      go_upto_region 14 with fail
      refine region_anyZ (z := 9) (S := fun w' => w'.cell? ⟨w.heap.size, 8, none⟩ = some kv) (by kernel_rfl) ?_
      refine anyZ_begin (fun hcl0 => ?_)
      refine anyZ_held (by exact HSS.out _ (Only.refl _ _) trivial) (fun hHeld => ?_)
      -- 0: Op.move (Operand.tmp 3)
      refine' anyZ_pure (i := 0) (v := _) rfl (by rfl) (by kernel_rfl) (by kernel_rfl) (by kernel_rfl) hcl0 (fun _ _ _ h => h) (Or.inl ⟨by rfl, fun w _ => ?hz1⟩) (fun _ => hHeld) (fun hcl1 => ?rz1)
      case hz1 => (simp only [List.getElem_toArray, List.getElem_cons_zero]; first | (go_simp; with_reducible rfl) | (go_simp; done) | rfl)
      simp only [List.getElem_toArray, List.getElem_cons_zero, Act.put, List.setIfInBounds_toArray, List.set_cons_zero, List.set_cons_succ]
      -- 1: Op.move (Operand.tmp 3)
      refine' anyZ_pure (i := 1) (v := _) rfl (by rfl) (by kernel_rfl) (by kernel_rfl) (by kernel_rfl) hcl1 (fun _ _ _ h => h) (Or.inl ⟨by rfl, fun w _ => ?hz2⟩) (fun _ => hHeld) (fun hcl2 => ?rz2)
      case hz2 => (simp only [List.getElem_toArray, List.getElem_cons_succ, List.getElem_cons_zero]; first | (go_simp; with_reducible rfl) | (go_simp; done) | rfl)
      simp only [List.getElem_toArray, List.getElem_cons_succ, List.getElem_cons_zero, Act.put, List.setIfInBounds_toArray, List.set_cons_zero, List.set_cons_succ]
      -- 2: Op.nilCheck (Operand.tmp 71)
      refine' anyZ_pure (i := 2) (v := _) rfl (by rfl) (by kernel_rfl) (by kernel_rfl) (by kernel_rfl) hcl2 (fun _ _ _ h => h) (Or.inl ⟨by rfl, fun w _ => ?hz3⟩) (fun _ => hHeld) (fun hcl3 => ?rz3)
      case hz3 => (simp only [List.getElem_toArray, List.getElem_cons_succ, List.getElem_cons_zero]; first | (go_simp; with_reducible rfl) | (go_simp; done) | rfl)
      simp only [List.getElem_toArray, List.getElem_cons_succ, List.getElem_cons_zero, Act.put, List.setIfInBounds_toArray, List.set_cons_zero, List.set_cons_succ]
      -- 3: Op.fieldAddr 74 (Operand.tmp 72) 3
      refine' anyZ_pure (i := 3) (v := _) rfl (by rfl) (by kernel_rfl) (by kernel_rfl) (by kernel_rfl) hcl3 (fun _ _ _ h => h) (Or.inl ⟨by rfl, fun w _ => ?hz4⟩) (fun _ => hHeld) (fun hcl4 => ?rz4)
      case hz4 => (simp only [List.getElem_toArray, List.getElem_cons_succ, List.getElem_cons_zero]; first | (go_simp; with_reducible rfl) | (go_simp; done) | rfl)
      simp only [List.getElem_toArray, List.getElem_cons_succ, List.getElem_cons_zero, Act.put, List.setIfInBounds_toArray, List.set_cons_zero, List.set_cons_succ]
      -- 4: Op.load 54 (Operand.tmp 73)
      refine' anyZ_take (i := 4) (v := _) rfl (by rfl) (by kernel_rfl) (by kernel_rfl) (by kernel_rfl) hcl4 8 (by kernel_rfl) (by kernel_rfl) (fun _ _ _ h => h) (Or.inl ⟨by rfl, fun w hSw => ?hz5⟩) hHeld (fun hcl5 => ?rz5)
      case hz5 => (simp only [List.getElem_toArray, List.getElem_cons_succ, List.getElem_cons_zero]; have hS8 := hSw; first | (go_simp; with_reducible rfl) | (go_simp; done) | rfl)
      simp only [List.getElem_toArray, List.getElem_cons_succ, List.getElem_cons_zero, Act.put, List.setIfInBounds_toArray, List.set_cons_zero, List.set_cons_succ]
      -- 5: Op.move (Operand.tmp 0)
      refine' anyZ_pure (i := 5) (v := _) rfl (by rfl) (by kernel_rfl) (by kernel_rfl) (by kernel_rfl) hcl5 (fun _ _ _ h => h) (Or.inl ⟨by rfl, fun w _ => ?hz6⟩) (fun _ => hHeld) (fun hcl6 => ?rz6)
      case hz6 => (simp only [List.getElem_toArray, List.getElem_cons_succ, List.getElem_cons_zero]; first | (go_simp; with_reducible rfl) | (go_simp; done) | rfl)
      simp only [List.getElem_toArray, List.getElem_cons_succ, List.getElem_cons_zero, Act.put, List.setIfInBounds_toArray, List.set_cons_zero, List.set_cons_succ]
      -- 6: Op.call { callee := Callee.value (Operand.func 59), args := 
      refine anyZ_one (i := 6) hcl6 (by kernel_rfl) (by simp only [List.getElem?_toArray, List.getElem?_cons_succ, List.getElem?_cons_zero]; rfl) (by rfl) (fun hcl7 K hK => ?_)
      go_simp
      refine (block_tok g ta tc ts B m n (Gr.want1 ts K1.2 Gr.wElse) _ HST.out HM.out.2.2 HMU2.out HA6.out HN0.out.asks).mono ?_
      rintro e w2 ⟨v, b2, rfl, hd2, hp2, ho2⟩
      obtain ⟨gv, rfl⟩ := hd2.ptr
      have HN2 := Lib.hid (HN0.out.got hp2 ho2 hd2)
      have HO2 := Lib.hid ho2
      clear hd2 hp2 ho2
      refine hK _ _ (fun _ => ?_) ?_
      · exact HSS.out _ HO2.out trivial
      clear hK K hHeld
      try simp only [Act.put, List.setIfInBounds_toArray, List.set_cons_zero, List.set_cons_succ]
      -- 7: Op.buildSlice 54 1 #[(0, Operand.tmp 76)]
      refine anyZ_one (i := 7) hcl7 (by kernel_rfl) (by simp only [List.getElem?_toArray, List.getElem?_cons_succ, List.getElem?_cons_zero]; rfl) (by rfl) (fun hcl8 K hK => ?_)
      go_simp
      refine hK _ _ (fun _ => ?_) ?_
      · exact HSS.out _ (HO2.out.trans (Only.of_below (bal (bre w2) _) _) fun _ _ h => h) trivial
      clear hK K
      try simp only [Act.put, List.setIfInBounds_toArray, List.set_cons_zero, List.set_cons_succ]
      -- 8: Op.call { callee := Callee.builtin Builtin.append, args := #
      refine anyZ_one (i := 8) hcl8 (by kernel_rfl) (by simp only [List.getElem?_toArray, List.getElem?_cons_succ, List.getElem?_cons_zero]; rfl) (by rfl) (fun hcl9 K hK => ?_)
      have hb3 := bal (bre w2) (.cells #[.pointer (some ⟨gv, 0, none⟩)] 47)
      have hrow3 := HROW.out _ (HO2.out.trans (Only.of_below hb3 _) fun _ _ h => h)
      obtain ⟨ps, hown, hlen, hngt, hinv, happ⟩ := (HN2.out.below hb3).app hrow3
      have hDsz := (HN2.out.below hb3).new w.heap.size (List.mem_cons_self ..)
      have hnews : ∀ j u, [Value.pointer (some ⟨gv, 0, none⟩)][j]? = some u → (w2.alloc (.cells #[.pointer (some ⟨gv, 0, none⟩)] 47)).cell? ((⟨w2.heap.size, 0, none⟩ : Addr).add j) = some u := fun j u hu => by
        match j, hu with
        | 0, hu => cases hu; exact cell_of_row _ _ 0 _ _ _ (heap_alloc_new w2 _)
      generalize w2.alloc (.cells #[.pointer (some ⟨gv, 0, none⟩)] 47) = W3 at *
      refine wp_app' _ _ 53 47 1 8 rowPtr rfl _ _ ps.length ps rfl hown ⟨w2.heap.size, 0, none⟩ 1 1 [.pointer (some ⟨gv, 0, none⟩)] rfl rfl hnews (by simp [Value.oneCell']) (by unfold maxLen; omega) (by omega) (Nat.le_of_lt (Nat.lt_of_le_of_lt hDsz.1 hDsz.2)) ?_
      intro v8 w8 k8 hg8 hs8
      have HN8 := Lib.hid (happ w8 v8 hg8 hs8 (by unfold OwnPtrs; rw [List.length_append, List.length_singleton]; exact k8))
      obtain ⟨a8, c8, rfl, -⟩ := ownsRow_lies k8
      have hr8 := ((Only.of_grown hg8).block w.heap.size hDsz.2 hngt).trans hrow3
      have HI8 := Lib.hid (hinv w8 hg8)
      have HR8 := Lib.hid hr8
      clear hb3 hrow3 hown hlen hngt hinv happ hDsz hnews hg8 hs8 k8 hr8
      refine hK _ _ (fun _ => ?_) ?_
      · exact cell_of_row w8 w.heap.size 8 _ _ _ HR8.out
      clear hK K
      try simp only [Act.put, List.setIfInBounds_toArray, List.set_cons_zero, List.set_cons_succ]
      refine anyZ_chain_at (by kernel_rfl) ?_
      simp only [List.drop_succ_cons, List.drop_zero]
      have hf8 := fun i => frozen_of_row w8 w.heap.size i _ _ HR8.out
      have hk8 := cell_of_row w8 w.heap.size 8 _ _ _ HR8.out
      obtain ⟨bs', hn8⟩ := HN8.out
      have HNZ := Lib.hid hn8
      clear HR8 HI8 HN8 hn8 HN2 HN0
      go_wp2_with fail
      refine bodyPost_ret (v := .pointer (some ⟨w.heap.size, 0, none⟩)) (by simp [results, Tryz.results49, go_sem]) rfl ?_
      rw [HR.out, stmt_if HB0.out HB1.out, ← HEM.out, ← HKM1.out]
      exact ⟨_, _, rfl, HNZ.out.done, HNZ.out.pat, HNZ.out.only⟩
    | false =>
      rw [take_no HB1.out] at HNT
      have HNC := HNT
      clear HNT
      go_wp2_with fail
      refine (take_tok g ta tc ts s Gr.wWhile _ HNC.out.pat hpos).mono ?_
      rintro e wt ⟨rfl, ht1, ho1⟩
      obtain ⟨b, hb⟩ : ∃ b, b = Gr.isT ts s Gr.wWhile := ⟨_, rfl⟩
      rw [← hb]
      have HB2 : Hid (Gr.isT ts s Gr.wWhile = b) := Lib.hid hb.symm
      have HNT := Lib.hid (HNC.out.call ht1 ho1)
      clear hb ht1 ho1 HNC
      cases b with
      | true =>
        have HHERE : Hid (s.bad = false ∧ s.pos < ts.length) := Lib.hid (Gr.isT_here HB2.out)
        rw [take_yes HB2.out] at HNT
        have HA : Hid (Gr.Ok ts (Gr.PS.adv s)) := Lib.hid (HOK.out.adv HHERE.out.2)
        have HA4 : Hid (Gr.Ok ts (Gr.expr ts m (Gr.PS.adv s)).2) := Lib.hid ((Gr.expr_keeps m).ok _ HA.out)
        obtain ⟨kvb, psb, hrowb, -, -⟩ := HNT.out.box
        have hfz := fun i => frozen_of_row _ w.heap.size i _ _ hrowb
        have b0 := cell_of_row _ w.heap.size 0 _ _ _ hrowb
        clear hrowb
        have hn4 := HNT.out.kind 9
        clear HNT
        go_upto_region 18 with fail
        generalize wt.setCell ⟨w.heap.size, 0, none⟩ (.int .u8 9) = w4 at *
        have HN4 := Lib.hid hn4
        clear hn4 hfz b0
        go_wp2_with fail
        refine (HEX.out (Gr.PS.adv s) _ (mu_top HM.out.1 _) HA.out.wide HN4.out.asks).mono ?_
        rintro e we1 ⟨ve1, be1, rfl, hde, hpe, hoe⟩
        obtain ⟨ge1, rfl⟩ := hde.ptr
        have HE1 := Lib.hid (HN4.out.got hpe hoe hde)
        clear hde hpe hoe HN4
        obtain ⟨E, hE⟩ : ∃ E, E = Gr.expr ts m (Gr.PS.adv s) := ⟨_, rfl⟩
        rw [← hE] at HE1 HA4
        have HEM := Lib.hid hE
        have HMU1 : Hid (muOf ts E.2 ≤ n) := Lib.hid (by rw [hE]; exact Nat.le_trans (mu_expr_le _) (mu_adv HHERE.out.1 HHERE.out.2 HMU.out))
        clear hE
        go_wp2_with fail
        refine (block_tok g ta tc ts B m n E.2 _ HST.out HM.out.2.2 HMU1.out HA4.out HE1.out.asks).mono ?_
        rintro e wk1 ⟨vk1, bk1, rfl, hde, hpe, hoe⟩
        obtain ⟨gk1, rfl⟩ := hde.ptr
        have HK1 := Lib.hid (HE1.out.got hpe hoe hde)
        clear hde hpe hoe HE1
        obtain ⟨K1, hK1⟩ : ∃ K, K = Gr.blockOf ts (Gr.stmt ts m n) n E.2 := ⟨_, rfl⟩
        rw [← hK1] at HK1
        have HKM1 := Lib.hid hK1
        clear hK1
        have hn8 : NS (fun _ => True) w ((wk1.alloc (.cells #[.pointer (some ⟨ge1, 0, none⟩), .pointer (some ⟨gk1, 0, none⟩)] 47)).setCell ⟨w.heap.size, 8, none⟩ (.slice (some ⟨wk1.heap.size, 0, none⟩) 2 2)) g ta tc ts B K1.2 w.heap.size w.heap.size 9 [] 0 0 [] [] [E.1, K1.1] (wk1.heap.size :: (([] ++ be1) ++ bk1)) [] [] [] := HK1.out.rowed 2 rfl (by decide)
        obtain ⟨kv7, ps7, hrow7, -, -⟩ := (HK1.out.below (bal (bre wk1) (.cells #[.pointer (some ⟨ge1, 0, none⟩), .pointer (some ⟨gk1, 0, none⟩)] 47))).box
        have hfz := fun i => frozen_of_row _ w.heap.size i _ _ hrow7
        have k8 := cell_of_row _ w.heap.size 8 _ _ _ hrow7
        clear hrow7 HK1
        go_upto_region 19 with fail
        generalize (wk1.alloc (.cells #[.pointer (some ⟨ge1, 0, none⟩), .pointer (some ⟨gk1, 0, none⟩)] 47)).setCell ⟨w.heap.size, 8, none⟩ (.slice (some ⟨wk1.heap.size, 0, none⟩) 2 2) = w9 at *
        have HR1 := Lib.hid hn8
        clear hn8 hfz k8
        go_wp2_with fail
        refine bodyPost_ret (v := .pointer (some ⟨w.heap.size, 0, none⟩)) (by simp [results, Tryz.results49, go_sem]) rfl ?_
        rw [HR.out, stmt_while HB0.out HB1.out HB2.out, ← HEM.out, ← HKM1.out]
        exact ⟨_, _, rfl, HR1.out.done, HR1.out.pat, HR1.out.only⟩
      | false =>
        rw [take_no HB2.out] at HNT
        have HNC := HNT
        clear HNT
        go_wp2_with fail
        refine (take_tok g ta tc ts s Gr.wPrint _ HNC.out.pat hpos).mono ?_
        rintro e wt ⟨rfl, ht1, ho1⟩
        obtain ⟨b, hb⟩ : ∃ b, b = Gr.isT ts s Gr.wPrint := ⟨_, rfl⟩
        rw [← hb]
        have HB3 : Hid (Gr.isT ts s Gr.wPrint = b) := Lib.hid hb.symm
        have HNT := Lib.hid (HNC.out.call ht1 ho1)
        clear hb ht1 ho1 HNC
        cases b with
        | true =>
          have HHERE : Hid (s.bad = false ∧ s.pos < ts.length) := Lib.hid (Gr.isT_here HB3.out)
          rw [take_yes HB3.out] at HNT
          have HA : Hid (Gr.Ok ts (Gr.PS.adv s)) := Lib.hid (HOK.out.adv HHERE.out.2)
          have HA4 : Hid (Gr.Ok ts (Gr.expr ts m (Gr.PS.adv s)).2) := Lib.hid ((Gr.expr_keeps m).ok _ HA.out)
          have HN4 := HNT
          clear HNT
          go_wp2_with fail
          refine (HEX.out (Gr.PS.adv s) _ (mu_top HM.out.1 _) HA.out.wide HN4.out.asks).mono ?_
          rintro e we1 ⟨ve1, be1, rfl, hde, hpe, hoe⟩
          obtain ⟨ge1, rfl⟩ := hde.ptr
          have HE1 := Lib.hid (HN4.out.got hpe hoe hde)
          clear hde hpe hoe HN4
          obtain ⟨E, hE⟩ : ∃ E, E = Gr.expr ts m (Gr.PS.adv s) := ⟨_, rfl⟩
          rw [← hE] at HE1 HA4
          have HEM := Lib.hid hE
          clear hE
          have hn8 : NS (fun _ => True) w (((we1.alloc (.cells #[.pointer (some ⟨ge1, 0, none⟩)] 47)).setCell ⟨w.heap.size, 0, none⟩ (.int .u8 11)).setCell ⟨w.heap.size, 8, none⟩ (.slice (some ⟨we1.heap.size, 0, none⟩) 1 1)) g ta tc ts B E.2 w.heap.size w.heap.size 11 [] 0 0 [] [] [E.1] (we1.heap.size :: ([] ++ be1)) [] [] [] := NS.kindrow HE1.out 11
          obtain ⟨kv7, ps7, hrow7, -, -⟩ := (HE1.out.below (bal (bre we1) (.cells #[.pointer (some ⟨ge1, 0, none⟩)] 47))).box
          have hfz := fun i => frozen_of_row _ w.heap.size i _ _ hrow7
          have k0 := cell_of_row _ w.heap.size 0 _ _ _ hrow7
          have k8 := cell_of_row _ w.heap.size 8 _ _ _ hrow7
          clear hrow7 HE1
          go_upto_region 24 with fail
          generalize ((we1.alloc (.cells #[.pointer (some ⟨ge1, 0, none⟩)] 47)).setCell ⟨w.heap.size, 0, none⟩ (.int .u8 11)).setCell ⟨w.heap.size, 8, none⟩ (.slice (some ⟨we1.heap.size, 0, none⟩) 1 1) = w9 at *
          have HR1 := Lib.hid hn8
          clear hn8 hfz k8 k0
          go_wp2_with fail
          have hb5 := bal (bre w9) (.cells #[.string (mk8 [59])] 9)
          have hr5 := heap_alloc_new w9 (.cells #[.string (mk8 [59])] 9)
          have hng : w9.heap.size ≠ g := fun e => by have := (Array.getElem?_eq_some_iff.1 HR1.out.pat.row).1; omega
          have hn5 := HR1.out.below hb5
          refine (want_tok g ta tc ts E.2 [[59]] w9.heap.size 1 1 _ hn5.pat rfl (by have := HA4.out.pos; omega) (fun j x hx => ?_) hng).mono ?_
          · match j, hx with
            | 0, hx => cases hx; exact cell_of_row _ _ 0 _ _ _ hr5
          rintro e w8 ⟨rfl, h1, ho1⟩
          have HW7 : Hid (NS (fun _ => True) w w8 g ta tc ts B (Gr.want1 ts E.2 [59]) w.heap.size w.heap.size 11 [] 0 0 [] [] [E.1] (we1.heap.size :: ([] ++ be1)) [] [] []) := Lib.hid (hn5.call h1 ho1)
          clear hb5 hr5 hng hn5 h1 ho1 HR1
          go_wp2_with fail
          refine bodyPost_ret (v := .pointer (some ⟨w.heap.size, 0, none⟩)) (by simp [results, Tryz.results49, go_sem]) rfl ?_
          rw [HR.out, stmt_print HB0.out HB1.out HB2.out HB3.out, ← HEM.out]
          exact ⟨_, _, rfl, HW7.out.done, HW7.out.pat, HW7.out.only⟩
        | false =>
          rw [take_no HB3.out] at HNT
          have HNC := HNT
          clear HNT
          go_wp2_with fail
          refine (take_tok g ta tc ts s Gr.wDo _ HNC.out.pat hpos).mono ?_
          rintro e wt ⟨rfl, ht1, ho1⟩
          obtain ⟨b, hb⟩ : ∃ b, b = Gr.isT ts s Gr.wDo := ⟨_, rfl⟩
          rw [← hb]
          have HB4 : Hid (Gr.isT ts s Gr.wDo = b) := Lib.hid hb.symm
          have HNT := Lib.hid (HNC.out.call ht1 ho1)
          clear hb ht1 ho1 HNC
          cases b with
          | true =>
            have HHERE : Hid (s.bad = false ∧ s.pos < ts.length) := Lib.hid (Gr.isT_here HB4.out)
            rw [take_yes HB4.out] at HNT
            have HA : Hid (Gr.Ok ts (Gr.PS.adv s)) := Lib.hid (HOK.out.adv HHERE.out.2)
            have HA1 : Hid (Gr.Ok ts (Gr.name ts (Gr.PS.adv s)).2) := Lib.hid (Gr.name_keeps.ok _ HA.out)
            have HA4 : Hid (Gr.Ok ts (Gr.callOf ts (Gr.expr ts m) m (Gr.name ts (Gr.PS.adv s)).1 (Gr.name ts (Gr.PS.adv s)).2).2) := Lib.hid ((Gr.callOf_keeps (Gr.expr_keeps m) m _).ok _ HA1.out)
            go_wp2_with fail
            refine (name_tok g ta tc ts (Gr.PS.adv s) _ HNT.out.pat (by have := HA.out.pos; omega)).mono ?_
            rintro e w3 ⟨rfl, hp3, ho3⟩
            have HN3 := Lib.hid (HNT.out.call hp3 ho3)
            clear hp3 ho3 HNT
            obtain ⟨N, hN⟩ : ∃ N, N = Gr.name ts (Gr.PS.adv s) := ⟨_, rfl⟩
            rw [← hN] at HN3 HA1 HA4 ⊢
            have HNM := Lib.hid hN
            clear hN
            go_wp2_with fail
            refine (call_tok g ta tc ts B m N.2 N.1 _ HEX.out HM.out.2.1 (mu_top HM.out.1 _) HA1.out HN3.out.asks).mono ?_
            rintro e we1 ⟨ve1, be1, rfl, hde, hpe, hoe⟩
            obtain ⟨ge1, rfl⟩ := hde.ptr
            have HE1 := Lib.hid (HN3.out.got hpe hoe hde)
            clear hde hpe hoe HN3
            obtain ⟨E, hE⟩ : ∃ E, E = Gr.callOf ts (Gr.expr ts m) m N.1 N.2 := ⟨_, rfl⟩
            rw [← hE] at HE1 HA4
            have HEM := Lib.hid hE
            clear hE
            have hn8 : NS (fun _ => True) w (((we1.alloc (.cells #[.pointer (some ⟨ge1, 0, none⟩)] 47)).setCell ⟨w.heap.size, 0, none⟩ (.int .u8 12)).setCell ⟨w.heap.size, 8, none⟩ (.slice (some ⟨we1.heap.size, 0, none⟩) 1 1)) g ta tc ts B E.2 w.heap.size w.heap.size 12 [] 0 0 [] [] [E.1] (we1.heap.size :: ([] ++ be1)) [] [] [] := NS.kindrow HE1.out 12
            obtain ⟨kv7, ps7, hrow7, -, -⟩ := (HE1.out.below (bal (bre we1) (.cells #[.pointer (some ⟨ge1, 0, none⟩)] 47))).box
            have hfz := fun i => frozen_of_row _ w.heap.size i _ _ hrow7
            have k0 := cell_of_row _ w.heap.size 0 _ _ _ hrow7
            have k8 := cell_of_row _ w.heap.size 8 _ _ _ hrow7
            clear hrow7 HE1
            go_upto_region 24 with fail
            generalize ((we1.alloc (.cells #[.pointer (some ⟨ge1, 0, none⟩)] 47)).setCell ⟨w.heap.size, 0, none⟩ (.int .u8 12)).setCell ⟨w.heap.size, 8, none⟩ (.slice (some ⟨we1.heap.size, 0, none⟩) 1 1) = w9 at *
            have HR1 := Lib.hid hn8
            clear hn8 hfz k8 k0
            go_wp2_with fail
            have hb5 := bal (bre w9) (.cells #[.string (mk8 [59])] 9)
            have hr5 := heap_alloc_new w9 (.cells #[.string (mk8 [59])] 9)
            have hng : w9.heap.size ≠ g := fun e => by have := (Array.getElem?_eq_some_iff.1 HR1.out.pat.row).1; omega
            have hn5 := HR1.out.below hb5
            refine (want_tok g ta tc ts E.2 [[59]] w9.heap.size 1 1 _ hn5.pat rfl (by have := HA4.out.pos; omega) (fun j x hx => ?_) hng).mono ?_
            · match j, hx with
              | 0, hx => cases hx; exact cell_of_row _ _ 0 _ _ _ hr5
            rintro e w10 ⟨rfl, h1, ho1⟩
            have HW9 : Hid (NS (fun _ => True) w w10 g ta tc ts B (Gr.want1 ts E.2 [59]) w.heap.size w.heap.size 12 [] 0 0 [] [] [E.1] (we1.heap.size :: ([] ++ be1)) [] [] []) := Lib.hid (hn5.call h1 ho1)
            clear hb5 hr5 hng hn5 h1 ho1 HR1
            go_wp2_with fail
            refine bodyPost_ret (v := .pointer (some ⟨w.heap.size, 0, none⟩)) (by simp [results, Tryz.results49, go_sem]) rfl ?_
            rw [HR.out, stmt_do HB0.out HB1.out HB2.out HB3.out HB4.out, ← HNM.out, ← HEM.out]
            exact ⟨_, _, rfl, HW9.out.done, HW9.out.pat, HW9.out.only⟩
          | false =>
            rw [take_no HB4.out] at HNT
            have HNC := HNT
            clear HNT
            have HA1 : Hid (Gr.Ok ts (Gr.name ts s).2) := Lib.hid (Gr.name_keeps.ok _ HOK.out)
            have HA3 : Hid (Gr.Ok ts (Gr.want1 ts (Gr.name ts s).2 [61])) := Lib.hid (HA1.out.want1 _)
            have HA4 : Hid (Gr.Ok ts (Gr.expr ts m (Gr.want1 ts (Gr.name ts s).2 [61])).2) := Lib.hid ((Gr.expr_keeps m).ok _ HA3.out)
            go_wp2_with fail
            refine (name_tok g ta tc ts s _ HNC.out.pat hpos).mono ?_
            rintro e w3 ⟨rfl, hp3, ho3⟩
            have HN3 := Lib.hid (HNC.out.call hp3 ho3)
            clear hp3 ho3 HNC
            obtain ⟨N, hN⟩ : ∃ N, N = Gr.name ts s := ⟨_, rfl⟩
            rw [← hN] at HN3 HA1 HA3 HA4 ⊢
            have HNM := Lib.hid hN
            clear hN
            obtain ⟨kvb, psb, hrowb, -, -⟩ := HN3.out.box
            have hfz := fun i => frozen_of_row _ w.heap.size i _ _ hrowb
            have b0 := cell_of_row _ w.heap.size 0 _ _ _ hrowb
            have b7 := cell_of_row _ w.heap.size 7 _ _ _ hrowb
            clear hrowb
            have hn4 := (HN3.out.kind 7).target N.1
            clear HN3
            go_upto_region 3 with fail
            generalize (w3.setCell ⟨w.heap.size, 0, none⟩ (.int .u8 7)).setCell ⟨w.heap.size, 7, none⟩ (.string (mk8 N.1)) = w4 at *
            have HN4 := Lib.hid hn4
            clear hn4 hfz b0 b7
            go_wp2_with fail
            have hb5 := bal (bre w4) (.cells #[.string (mk8 [61])] 9)
            have hr5 := heap_alloc_new w4 (.cells #[.string (mk8 [61])] 9)
            have hng : w4.heap.size ≠ g := fun e => by have := (Array.getElem?_eq_some_iff.1 HN4.out.pat.row).1; omega
            have hn5 := HN4.out.below hb5
            refine (want_tok g ta tc ts N.2 [[61]] w4.heap.size 1 1 _ hn5.pat rfl (by have := HA1.out.pos; omega) (fun j x hx => ?_) hng).mono ?_
            · match j, hx with
              | 0, hx => cases hx; exact cell_of_row _ _ 0 _ _ _ hr5
            rintro e w12 ⟨rfl, h1, ho1⟩
            have HW11 : Hid (NS (fun _ => True) w w12 g ta tc ts B (Gr.want1 ts N.2 [61]) w.heap.size w.heap.size 7 [] 0 0 [] N.1 [] [] [] [] []) := Lib.hid (hn5.call h1 ho1)
            clear hb5 hr5 hng hn5 h1 ho1 HN4
            go_wp2_with fail
            refine (HEX.out (Gr.want1 ts N.2 [61]) _ (mu_top HM.out.1 _) HA3.out.wide HW11.out.asks).mono ?_
            rintro e we1 ⟨ve1, be1, rfl, hde, hpe, hoe⟩
            obtain ⟨ge1, rfl⟩ := hde.ptr
            have HE1 := Lib.hid (HW11.out.got hpe hoe hde)
            clear hde hpe hoe HW11
            obtain ⟨E, hE⟩ : ∃ E, E = Gr.expr ts m (Gr.want1 ts N.2 [61]) := ⟨_, rfl⟩
            rw [← hE] at HE1 HA4
            have HEM := Lib.hid hE
            clear hE
            have hn8 : NS (fun _ => True) w ((we1.alloc (.cells #[.pointer (some ⟨ge1, 0, none⟩)] 47)).setCell ⟨w.heap.size, 8, none⟩ (.slice (some ⟨we1.heap.size, 0, none⟩) 1 1)) g ta tc ts B E.2 w.heap.size w.heap.size 7 [] 0 0 [] N.1 [E.1] (we1.heap.size :: ([] ++ be1)) [] [] [] := HE1.out.rowed 1 rfl (by decide)
            obtain ⟨kv7, ps7, hrow7, -, -⟩ := (HE1.out.below (bal (bre we1) (.cells #[.pointer (some ⟨ge1, 0, none⟩)] 47))).box
            have hfz := fun i => frozen_of_row _ w.heap.size i _ _ hrow7
            have k8 := cell_of_row _ w.heap.size 8 _ _ _ hrow7
            clear hrow7 HE1
            go_upto_region 24 with fail
            generalize (we1.alloc (.cells #[.pointer (some ⟨ge1, 0, none⟩)] 47)).setCell ⟨w.heap.size, 8, none⟩ (.slice (some ⟨we1.heap.size, 0, none⟩) 1 1) = w9 at *
            have HR1 := Lib.hid hn8
            clear hn8 hfz k8
            go_wp2_with fail
            have hb5 := bal (bre w9) (.cells #[.string (mk8 [59])] 9)
            have hr5 := heap_alloc_new w9 (.cells #[.string (mk8 [59])] 9)
            have hng : w9.heap.size ≠ g := fun e => by have := (Array.getElem?_eq_some_iff.1 HR1.out.pat.row).1; omega
            have hn5 := HR1.out.below hb5
            refine (want_tok g ta tc ts E.2 [[59]] w9.heap.size 1 1 _ hn5.pat rfl (by have := HA4.out.pos; omega) (fun j x hx => ?_) hng).mono ?_
            · match j, hx with
              | 0, hx => cases hx; exact cell_of_row _ _ 0 _ _ _ hr5
            rintro e w14 ⟨rfl, h1, ho1⟩
            have HW13 : Hid (NS (fun _ => True) w w14 g ta tc ts B (Gr.want1 ts E.2 [59]) w.heap.size w.heap.size 7 [] 0 0 [] N.1 [E.1] (we1.heap.size :: ([] ++ be1)) [] [] []) := Lib.hid (hn5.call h1 ho1)
            clear hb5 hr5 hng hn5 h1 ho1 HR1
            go_wp2_with fail
            refine bodyPost_ret (v := .pointer (some ⟨w.heap.size, 0, none⟩)) (by simp [results, Tryz.results49, go_sem]) rfl ?_
            rw [HR.out, stmt_set HB0.out HB1.out HB2.out HB3.out HB4.out, ← HNM.out, ← HEM.out]
            exact ⟨_, _, rfl, HW13.out.done, HW13.out.pat, HW13.out.only⟩
theorem stmt_any (g : Nat) (ta : Option Addr) (tc : Nat) (ts : List Tok) (B m : Nat) (hm : ts.length + 1 ≤ m) (hm2 : m ≤ 2000000) (hT : TokOk ts) : ∀ n, n ≤ 2000000 → StmtIH g ta tc ts B m n
  | 0, _ => fun s w hmu hb hok h => by
    have := hok.here hb
    unfold muOf at hmu
    rw [hb] at hmu
    simp only [Bool.false_eq_true, if_false] at hmu
    omega
  | n + 1, hn => fun s w hmu hb hok h => stmt_walk g ta tc ts B m n s w (stmt_any g ta tc ts B m hm hm2 hT n (by omega)) hm hm2 (by omega) hmu hok hT h
end Go.Proofs.YtljdphpbalioaaaGreatDoor
