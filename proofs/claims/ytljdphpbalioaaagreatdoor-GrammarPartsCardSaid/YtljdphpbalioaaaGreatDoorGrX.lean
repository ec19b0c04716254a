/- Walk: an expression. -/
import Derived.Test.YtljdphpbalioaaaGreatDoorGrG
import Derived.Test.YtljdphpbalioaaaGreatDoorGrH
import Derived.Test.YtljdphpbalioaaaGreatDoorPreL
namespace Go.Proofs.YtljdphpbalioaaaGreatDoor
open Go.RowKit

/-- the token's own cells -/
def TCell (w : World) (q : Nat) (t : Tok) : Prop := w.cell? ⟨q, 0, none⟩ = some (.int .u8 (t.kind : Nat)) ∧ w.cell? ⟨q, 1, none⟩ = some (.string (mk8 t.text)) ∧ w.cell? ⟨q, 2, none⟩ = some (.int .i64 (t.pos : Nat))
/-- numbers are numbers -/
def TokOk (ts : List Tok) : Prop := ∀ t ∈ ts, t.kind = 2 → numB t.text = true ∧ (∀ b ∈ t.text, partN b.toNat = true) ∧ t.text.length ≤ 281474976710656
theorem now_mem {ts : List Tok} {s : PS} (h : (Gr.now ts s).kind ≠ 0) : Gr.now ts s ∈ ts := by
  obtain ⟨hb, hp⟩ := Gr.now_here h
  unfold Gr.now
  rw [hb, List.getElem?_eq_getElem hp]
  exact List.getElem_mem hp
section
variable {ts : List Tok} {n : Nat} {s : PS}
theorem expr_num (h2 : (Gr.now ts s).kind = 2) : Gr.expr ts (n + 1) s = (Gr.leaf 13 (valOf (Gr.now ts s).text) [], Gr.PS.adv s) := by rw [Gr.expr, if_pos h2]
theorem expr_call (h1 : (Gr.now ts s).kind = 1) (hd : Gr.isT ts (Gr.PS.adv s) [46] = true) : Gr.expr ts (n + 1) s = Gr.callOf ts (Gr.expr ts n) n (Gr.now ts s).text (Gr.PS.adv s) := by
  rw [Gr.expr, if_neg (by omega), if_pos h1, if_pos hd]
theorem expr_var (h1 : (Gr.now ts s).kind = 1) (hd : Gr.isT ts (Gr.PS.adv s) [46] = false) : Gr.expr ts (n + 1) s = (Gr.leaf 15 0 (Gr.now ts s).text, Gr.PS.adv s) := by
  rw [Gr.expr, if_neg (by omega), if_pos h1, if_neg (by rw [hd]; decide)]
theorem expr_true (h2 : (Gr.now ts s).kind ≠ 2) (h1 : (Gr.now ts s).kind ≠ 1) (ha : Gr.isT ts s Gr.wTrue = true) : Gr.expr ts (n + 1) s = (Gr.leaf 14 1 [], Gr.PS.adv s) := by
  rw [Gr.expr, if_neg h2, if_neg h1, if_pos ha]
theorem expr_false (h2 : (Gr.now ts s).kind ≠ 2) (h1 : (Gr.now ts s).kind ≠ 1) (ha : Gr.isT ts s Gr.wTrue = false) (hb : Gr.isT ts s Gr.wFalse = true) : Gr.expr ts (n + 1) s = (Gr.leaf 14 0 [], Gr.PS.adv s) := by
  rw [Gr.expr, if_neg h2, if_neg h1, if_neg (by rw [ha]; decide), if_pos hb]
theorem expr_read (h2 : (Gr.now ts s).kind ≠ 2) (h1 : (Gr.now ts s).kind ≠ 1) (ha : Gr.isT ts s Gr.wTrue = false) (hb : Gr.isT ts s Gr.wFalse = false) (hc : Gr.isT ts s Gr.wRead = true) : Gr.expr ts (n + 1) s = (Gr.leaf 20 0 [], Gr.PS.adv s) := by
  rw [Gr.expr, if_neg h2, if_neg h1, if_neg (by rw [ha]; decide), if_neg (by rw [hb]; decide), if_pos hc]
theorem expr_not (h2 : (Gr.now ts s).kind ≠ 2) (h1 : (Gr.now ts s).kind ≠ 1) (ha : Gr.isT ts s Gr.wTrue = false) (hb : Gr.isT ts s Gr.wFalse = false) (hc : Gr.isT ts s Gr.wRead = false) (hd : Gr.isT ts s [33] = true) : Gr.expr ts (n + 1) s = (.mk 16 [] 0 0 [] [] (Gr.within (Gr.PS.adv s) (Gr.oneOf (Gr.expr ts n)) []).1, (Gr.within (Gr.PS.adv s) (Gr.oneOf (Gr.expr ts n)) []).2) := by
  rw [Gr.expr, if_neg h2, if_neg h1, if_neg (by rw [ha]; decide), if_neg (by rw [hb]; decide), if_neg (by rw [hc]; decide), if_pos hd]
theorem expr_neg (h2 : (Gr.now ts s).kind ≠ 2) (h1 : (Gr.now ts s).kind ≠ 1) (ha : Gr.isT ts s Gr.wTrue = false) (hb : Gr.isT ts s Gr.wFalse = false) (hc : Gr.isT ts s Gr.wRead = false) (hd : Gr.isT ts s [33] = false) (he : Gr.isT ts s [45] = true) : Gr.expr ts (n + 1) s = (.mk 17 [] 0 0 [] [] (Gr.within (Gr.PS.adv s) (Gr.oneOf (Gr.expr ts n)) []).1, (Gr.within (Gr.PS.adv s) (Gr.oneOf (Gr.expr ts n)) []).2) := by
  rw [Gr.expr, if_neg h2, if_neg h1, if_neg (by rw [ha]; decide), if_neg (by rw [hb]; decide), if_neg (by rw [hc]; decide), if_neg (by rw [hd]; decide), if_pos he]
theorem expr_bin (h2 : (Gr.now ts s).kind ≠ 2) (h1 : (Gr.now ts s).kind ≠ 1) (ha : Gr.isT ts s Gr.wTrue = false) (hb : Gr.isT ts s Gr.wFalse = false) (hc : Gr.isT ts s Gr.wRead = false) (hd : Gr.isT ts s [33] = false) (he : Gr.isT ts s [45] = false) (hf : Gr.isT ts s [40] = true) : Gr.expr ts (n + 1) s = (.mk 18 [] ((Gr.within (Gr.PS.adv s) (Gr.binOf ts (Gr.expr ts n)) (0, [])).1.1 : Nat) 0 [] [] (Gr.within (Gr.PS.adv s) (Gr.binOf ts (Gr.expr ts n)) (0, [])).1.2, (Gr.within (Gr.PS.adv s) (Gr.binOf ts (Gr.expr ts n)) (0, [])).2) := by
  rw [Gr.expr, if_neg h2, if_neg h1, if_neg (by rw [ha]; decide), if_neg (by rw [hb]; decide), if_neg (by rw [hc]; decide), if_neg (by rw [hd]; decide), if_neg (by rw [he]; decide), if_pos hf]
theorem expr_else (h2 : (Gr.now ts s).kind ≠ 2) (h1 : (Gr.now ts s).kind ≠ 1) (ha : Gr.isT ts s Gr.wTrue = false) (hb : Gr.isT ts s Gr.wFalse = false) (hc : Gr.isT ts s Gr.wRead = false) (hd : Gr.isT ts s [33] = false) (he : Gr.isT ts s [45] = false) (hf : Gr.isT ts s [40] = false) : Gr.expr ts (n + 1) s = (Gr.leaf 0 0 [], Gr.PS.fail s) := by
  rw [Gr.expr, if_neg h2, if_neg h1, if_neg (by rw [ha]; decide), if_neg (by rw [hb]; decide), if_neg (by rw [hc]; decide), if_neg (by rw [hd]; decide), if_neg (by rw [he]; decide), if_neg (by rw [hf]; decide)]
theorem take_yes {x : List UInt8} (h : Gr.isT ts s x = true) : Gr.take ts s x = Gr.PS.adv s := by unfold Gr.take; rw [h]; rfl
theorem take_no {x : List UInt8} (h : Gr.isT ts s x = false) : Gr.take ts s x = s := by unfold Gr.take; rw [h]; rfl
theorem mu_adv (hb : s.bad = false) (hp : s.pos < ts.length) (h : muOf ts s ≤ n + 1) : muOf ts (Gr.PS.adv s) ≤ n := by
  unfold muOf at h ⊢
  rw [show (Gr.PS.adv s).bad = s.bad from rfl]
  rw [hb] at h ⊢
  show ts.length + 1 - (s.pos + 1) ≤ n
  simp only [Bool.false_eq_true, if_false] at h
  omega
end
theorem DoneAt.base {w : World} {B B' : Nat} {v : Value} {t : Tr} {bs : List Nat} (h : DoneAt w B v t bs) (hB : B' ≤ B) : DoneAt w B' v t bs := ⟨h.at', h.once, fun b hb => ⟨Nat.le_trans hB (h.new b hb).1, (h.new b hb).2⟩⟩
set_option linter.unusedSimpArgs false in
set_option maxRecDepth 20000 in
set_option maxHeartbeats 3200000 in
theorem expr_walk (g : Nat) (ta : Option Addr) (tc : Nat) (ts : List Tok) (B n : Nat) (s : PS) (w : World) (hih : s.bad = false → ExprIH g ta tc ts B n) (hn : n ≤ 2000000) (hmu : muOf ts s ≤ n + 1) (hok : Gr.Okw ts s) (hT : TokOk ts) (h : Asks w g ta tc ts B s) :
    Calls Tryz.prog 50 #[.pointer (some ⟨g, 0, none⟩)] w (TreeSays g ta tc ts w (Gr.expr ts (n + 1) s)) := by
  have HIH := Lib.hid hih
  have hn0 : NS (fun w' => Caps w' (w.heap.size + 1 + 1) w.heap.size (w.heap.size + 1) g) w (((w.alloc (.cells #[.pointer (some ⟨g, 0, none⟩)] 44)).alloc (.cells #[.int .u8 0, .string ⟨#[]⟩, .int .i64 0, .int .u8 0, .int .u64 0, .slice none 0 0, .string ⟨#[]⟩, .string ⟨#[]⟩, .slice none 0 0, .int .u64 0] 75)).alloc (.cells #[.pointer (some ⟨w.heap.size + 1, 0, none⟩)] 47)) g ta tc ts B s w.heap.size (w.heap.size + 1) 0 [] 0 0 [] [] [] [] [] [] [] := NS.start3 h 0 [] 0 0 [] []
  have hfew := h.pat.few
  have hpos : s.pos ≤ 1000000000 := by have := hok.pos; omega
  have HOK := Lib.hid hok
  have HTK := Lib.hid hT
  have HMU := Lib.hid hmu
  have HN0 := Lib.hid hn0
  obtain ⟨R, hR⟩ : ∃ R, R = Gr.expr ts (n + 1) s := ⟨_, rfl⟩
  rw [← hR]
  have HR := Lib.hid hR
  clear hih h hn0 hok hT hmu hR
  go_enter Tryz.func50, Tryz.ntmps50
  go_upto_region 2 with fail
  generalize ((w.alloc (.cells #[.pointer (some ⟨g, 0, none⟩)] 44)).alloc (.cells #[.int .u8 0, .string ⟨#[]⟩, .int .i64 0, .int .u8 0, .int .u64 0, .slice none 0 0, .string ⟨#[]⟩, .string ⟨#[]⟩, .slice none 0 0, .int .u64 0] 75)).alloc (.cells #[.pointer (some ⟨w.heap.size + 1, 0, none⟩)] 47) = W at *
  have hcap := HN0.out.holds
  have c1 := hcap.1
  have c2 := hcap.2
  clear hcap
  go_wp2_with fail
  refine (now_any g ta tc ts s W HN0.out.pat hpos).mono ?_
  rintro e w1 ⟨rfl, hb1⟩
  obtain ⟨t, ht⟩ : ∃ t, t = Gr.now ts s := ⟨_, rfl⟩
  rw [← ht]
  have HT := Lib.hid ht
  unfold TokV
  have hn1 := HN0.out.below hb1
  clear hb1 ht c1 c2 HN0
  go_upto_region 4 with fail
  obtain ⟨tq, htq⟩ : ∃ q, q = w1.heap.size := ⟨_, rfl⟩
  have hb2 := bal (bre w1) (.cells #[.int .u8 (t.kind : Nat), .string (mk8 t.text), .int .i64 (t.pos : Nat)] 71)
  have hr2 := heap_alloc_new w1 (.cells #[.int .u8 (t.kind : Nat), .string (mk8 t.text), .int .i64 (t.pos : Nat)] 71)
  rw [← htq] at hr2 ⊢
  generalize w1.alloc (.cells #[.int .u8 (t.kind : Nat), .string (mk8 t.text), .int .i64 (t.pos : Nat)] 71) = w2 at *
  have HNC : Hid (NS (fun w' => Caps w' (w.heap.size + 1 + 1) w.heap.size (w.heap.size + 1) g ∧ TCell w' tq t) w w2 g ta tc ts B s w.heap.size (w.heap.size + 1) 0 [] 0 0 [] [] [] [] [] [] []) := Lib.hid (hn1.turned hb2 (fun w3 h3 => by
    have h4 := hn1.inv w3 (((Only.of_below hb2 (fun k => k = g ∨ k ∈ (w.heap.size + 1) :: ([] ++ []))).trans h3 fun _ _ h => h))
    have h5 : ¬ (tq = g ∨ tq ∈ (w.heap.size + 1) :: ([] ++ [])) := fun e => by
      have h6 := (hn1.new (w.heap.size + 1) (List.mem_cons_self ..)).2
      have h7 := (Array.getElem?_eq_some_iff.1 hn1.pat.row).1
      rcases e with e | e
      · omega
      · have : tq = w.heap.size + 1 := by simpa using e
        omega
    have h8 := (h3.block tq (by rw [htq]; exact Nat.lt_of_lt_of_le (by have := (Array.getElem?_eq_some_iff.1 hr2).1; rw [htq] at this; exact this) (Nat.le_refl _)) h5).trans hr2
    exact ⟨h4, cell_of_row w3 tq 0 _ _ _ h8, cell_of_row w3 tq 1 _ _ _ h8, cell_of_row w3 tq 2 _ _ _ h8⟩))
  clear hb2 hr2 hn1 htq
  have hcap := HNC.out.holds
  have c1 := hcap.1.1
  have c2 := hcap.1.2
  have ct0 := hcap.2.1
  have ct1 := hcap.2.2.1
  have ct2 := hcap.2.2.2
  clear hcap
  by_cases hk2 : t.kind = 2
  · have e1 : decide ((t.kind : Int) = 2) = true := decide_eq_true (by omega)
    have e2 : ((t.kind : Int) == 2) = true := by rw [hk2]; rfl
    have HK2 : Hid ((Gr.now ts s).kind = 2) := Lib.hid (by rw [← HT.out]; exact hk2)
    have HTM : Hid (numB t.text = true ∧ (∀ b ∈ t.text, partN b.toNat = true) ∧ t.text.length ≤ 281474976710656) := Lib.hid (HTK.out t (by rw [HT.out]; exact now_mem (by rw [HK2.out]; decide)) hk2)
    have g1 := cell_of_row w2 g 1 _ _ _ HNC.out.pat.row
    replace g1 : w2.cell? ⟨g, 1, none⟩ = some (.int .i64 (s.pos : Nat)) := g1
    have gf := fun i => frozen_of_row w2 g i _ _ HNC.out.pat.row
    have hw1 : wrap64 ((s.pos : Int) + 1) = ((s.pos + 1 : Nat) : Int) := by unfold wrap64; omega
    have hw2 : IntKind.i64.wrap ((s.pos : Int) + 1) = ((s.pos + 1 : Nat) : Int) := by rw [IntKind.wrap_i64]; omega
    have hn5 : NS (fun w' => Caps w' (w.heap.size + 1 + 1) w.heap.size (w.heap.size + 1) g ∧ TCell w' tq t) w (w2.setCell ⟨g, 1, none⟩ (.int .i64 ((s.pos + 1 : Nat) : Int))) g ta tc ts B (Gr.PS.adv s) w.heap.size (w.heap.size + 1) 0 [] 0 0 [] [] [] [] [] [] [] := HNC.out.call HNC.out.pat.adv (Only.setCell w2 ⟨g, 1, none⟩ _)
    clear HNC
    go_upto_region 6 with fail
    try rw [show ((s.pos : Int) + 1) = ((s.pos + 1 : Nat) : Int) from rfl]
    generalize w2.setCell ⟨g, 1, none⟩ (.int .i64 ((s.pos + 1 : Nat) : Int)) = W3 at *
    have HN5 := Lib.hid (hn5.below (bdr (bre W3)))
    clear hn5 c1 c2 ct0 ct1 ct2 g1 gf hw1 hw2
    refine region_anyZ (z := 8) (S := fun w' => Caps w' (w.heap.size + 1 + 1) w.heap.size (w.heap.size + 1) g ∧ TCell w' tq t) (by kernel_rfl) ?_
    refine anyZ_begin (fun hcl0 => ?_)
    refine anyZ_held (by exact HN5.out.holds) (fun hHeld => ?_)
    -- 0: Op.load 48 (Operand.tmp 3)
    refine' anyZ_take (i := 0) (v := _) rfl (by rfl) (by kernel_rfl) (by kernel_rfl) (by kernel_rfl) hcl0 8 (by kernel_rfl) (by kernel_rfl) (fun _ _ _ h => h) (Or.inl ⟨by rfl, fun w hSw => ?hz1⟩) hHeld (fun hcl1 => ?rz1)
    case hz1 => (simp only [List.getElem_toArray, List.getElem_cons_zero]; obtain ⟨⟨hS1, hS2⟩, hS3, hS4, hS5⟩ := hSw; first | (go_simp; with_reducible rfl) | (go_simp; done) | rfl)
    simp only [List.getElem_toArray, List.getElem_cons_zero, Act.put, List.setIfInBounds_toArray, List.set_cons_zero, List.set_cons_succ]
    -- 1: Op.load 48 (Operand.tmp 3)
    refine' anyZ_take (i := 1) (v := _) rfl (by rfl) (by kernel_rfl) (by kernel_rfl) (by kernel_rfl) hcl1 8 (by kernel_rfl) (by kernel_rfl) (fun _ _ _ h => h) (Or.inl ⟨by rfl, fun w hSw => ?hz2⟩) hHeld (fun hcl2 => ?rz2)
    case hz2 => (simp only [List.getElem_toArray, List.getElem_cons_succ, List.getElem_cons_zero]; obtain ⟨⟨hS1, hS2⟩, hS3, hS4, hS5⟩ := hSw; first | (go_simp; with_reducible rfl) | (go_simp; done) | rfl)
    simp only [List.getElem_toArray, List.getElem_cons_succ, List.getElem_cons_zero, Act.put, List.setIfInBounds_toArray, List.set_cons_zero, List.set_cons_succ]
    -- 2: Op.load 70 (Operand.tmp 4)
    refine' anyZ_take (i := 2) (v := _) rfl (by rfl) (by kernel_rfl) (by kernel_rfl) (by kernel_rfl) hcl2 8 (by kernel_rfl) (by kernel_rfl) (fun _ _ _ h => h) (Or.inl ⟨by rfl, fun w hSw => ?hz3⟩) hHeld (fun hcl3 => ?rz3)
    case hz3 => (simp only [List.getElem_toArray, List.getElem_cons_succ, List.getElem_cons_zero]; obtain ⟨⟨hS1, hS2⟩, hS3, hS4, hS5⟩ := hSw; first | (go_simp; with_reducible rfl) | (go_simp; done) | rfl)
    simp only [List.getElem_toArray, List.getElem_cons_succ, List.getElem_cons_zero, Act.put, List.setIfInBounds_toArray, List.set_cons_zero, List.set_cons_succ]
    -- 3: Op.call { callee := Callee.value (Operand.func 61), args := 
    refine anyZ_one (i := 3) hcl3 (by kernel_rfl) (by simp only [List.getElem?_toArray, List.getElem?_cons_succ, List.getElem?_cons_zero]; rfl) (by rfl) (fun hcl4 K hK => ?_)
    go_simp
    refine (value_num t.text _ HTM.out.1 HTM.out.2.1 HTM.out.2.2 _).mono ?_
    rintro e w6 ⟨rfl, hb6⟩
    have HN6 := Lib.hid (HN5.out.below hb6)
    clear hb6
    refine hK _ _ (fun _ => ?_) ?_
    · exact HN6.out.holds
    clear hK K hHeld
    have hHeld := HN6.out.holds
    try simp only [Act.put, List.setIfInBounds_toArray, List.set_cons_zero, List.set_cons_succ]
    -- 4: Op.nilCheck (Operand.tmp 24)
    refine' anyZ_pure (i := 4) (v := _) rfl (by rfl) (by kernel_rfl) (by kernel_rfl) (by kernel_rfl) hcl4 (fun _ _ _ h => h) (Or.inl ⟨by rfl, fun w _ => ?hz5⟩) (fun _ => hHeld) (fun hcl5 => ?rz5)
    case hz5 => (simp only [List.getElem_toArray, List.getElem_cons_succ, List.getElem_cons_zero]; first | (go_simp; with_reducible rfl) | (go_simp; done) | rfl)
    simp only [List.getElem_toArray, List.getElem_cons_succ, List.getElem_cons_zero, Act.put, List.setIfInBounds_toArray, List.set_cons_zero, List.set_cons_succ]
    -- 5: Op.fieldAddr 74 (Operand.tmp 28) 0
    refine' anyZ_pure (i := 5) (v := _) rfl (by rfl) (by kernel_rfl) (by kernel_rfl) (by kernel_rfl) hcl5 (fun _ _ _ h => h) (Or.inl ⟨by rfl, fun w _ => ?hz6⟩) (fun _ => hHeld) (fun hcl6 => ?rz6)
    case hz6 => (simp only [List.getElem_toArray, List.getElem_cons_succ, List.getElem_cons_zero]; first | (go_simp; with_reducible rfl) | (go_simp; done) | rfl)
    simp only [List.getElem_toArray, List.getElem_cons_succ, List.getElem_cons_zero, Act.put, List.setIfInBounds_toArray, List.set_cons_zero, List.set_cons_succ]
    -- 6: Op.fieldAddr 38 (Operand.tmp 29) 0
    refine' anyZ_pure (i := 6) (v := _) rfl (by rfl) (by kernel_rfl) (by kernel_rfl) (by kernel_rfl) hcl6 (fun _ _ _ h => h) (Or.inl ⟨by rfl, fun w _ => ?hz7⟩) (fun _ => hHeld) (fun hcl7 => ?rz7)
    case hz7 => (simp only [List.getElem_toArray, List.getElem_cons_succ, List.getElem_cons_zero]; first | (go_simp; with_reducible rfl) | (go_simp; done) | rfl)
    simp only [List.getElem_toArray, List.getElem_cons_succ, List.getElem_cons_zero, Act.put, List.setIfInBounds_toArray, List.set_cons_zero, List.set_cons_succ]
    -- 7: Op.store 5 (Operand.tmp 30) (Operand.const (Value.int IntKin
    refine anyZ_one (i := 7) hcl7 (by kernel_rfl) (by simp only [List.getElem?_toArray, List.getElem?_cons_succ, List.getElem?_cons_zero]; rfl) (by rfl) (fun hcl8 K hK => ?_)
    obtain ⟨kvb, psb, hrowb, -, -⟩ := HN6.out.box
    have hfz := fun i => frozen_of_row _ (w.heap.size + 1) i _ _ hrowb
    have b0 := cell_of_row _ (w.heap.size + 1) 0 _ _ _ hrowb
    have b2 := cell_of_row _ (w.heap.size + 1) 2 _ _ _ hrowb
    have b7 := cell_of_row _ (w.heap.size + 1) 7 _ _ _ hrowb
    clear hrowb
    go_simp
    have HN7 := Lib.hid (HN6.out.kind 13)
    refine hK _ _ (fun _ => ?_) ?_
    · exact HN7.out.holds
    clear hK K hHeld
    try simp only [Act.put, List.setIfInBounds_toArray, List.set_cons_zero, List.set_cons_succ]
    refine anyZ_chain_at (by kernel_rfl) ?_
    simp only [List.drop_succ_cons, List.drop_zero]
    obtain ⟨kvb, psb, hrowb, -, -⟩ := HN7.out.box
    have hfz := fun i => frozen_of_row _ (w.heap.size + 1) i _ _ hrowb
    have b0 := cell_of_row _ (w.heap.size + 1) 0 _ _ _ hrowb
    have b2 := cell_of_row _ (w.heap.size + 1) 2 _ _ _ hrowb
    have b7 := cell_of_row _ (w.heap.size + 1) 7 _ _ _ hrowb
    clear hrowb
    have hnz := HN7.out.numb (valOf t.text)
    clear HN6 HN5
    go_upto_region 27 with fail
    generalize (w6.setCell ⟨w.heap.size + 1, 0, none⟩ (.int .u8 13)).setCell ⟨w.heap.size + 1, 2, none⟩ (.int .i64 (valOf t.text)) = W9 at *
    have HNZ := Lib.hid hnz
    clear hnz hfz b0 b2 b7 HN7
    have hcap := HNZ.out.holds
    have c1 := hcap.1.1
    have c2 := hcap.1.2
    have ct0 := hcap.2.1
    have ct1 := hcap.2.2.1
    have ct2 := hcap.2.2.2
    clear hcap
    go_wp2_with fail
    refine bodyPost_ret (v := .pointer (some ⟨w.heap.size + 1, 0, none⟩)) (by simp [results, Tryz.results50, go_sem]) rfl ?_
    rw [HR.out, expr_num HK2.out, ← HT.out]
    exact ⟨_, _, rfl, HNZ.out.done, HNZ.out.pat, HNZ.out.only⟩
  · have e1 : decide ((t.kind : Int) = 2) = false := decide_eq_false (by omega)
    have e2 : ((t.kind : Int) == 2) = false := by rw [beq_eq_false_iff_ne]; omega
    have HK2 : Hid ((Gr.now ts s).kind ≠ 2) := Lib.hid (by rw [← HT.out]; exact hk2)
    by_cases hk1 : t.kind = 1
    · have e3 : decide ((t.kind : Int) = 1) = true := decide_eq_true (by omega)
      have e4 : ((t.kind : Int) == 1) = true := by rw [hk1]; rfl
      have HK1 : Hid ((Gr.now ts s).kind = 1) := Lib.hid (by rw [← HT.out]; exact hk1)
      have HHERE : Hid (s.bad = false ∧ s.pos < ts.length) := Lib.hid (Gr.now_here (ts := ts) (by rw [HK1.out]; decide))
      have HNAME : Hid (Gr.name ts s = (t.text, Gr.PS.adv s)) := Lib.hid (by unfold Gr.name; rw [if_pos HK1.out, HT.out])
      clear hk2 hk1
      go_wp2_with fail
      refine (name_tok g ta tc ts s _ HNC.out.pat hpos).mono ?_
      rintro e w3 ⟨rfl, hp3, ho3⟩
      rw [HNAME.out] at hp3 ⊢
      have HN3 : Hid (NS (fun w' => Caps w' (w.heap.size + 1 + 1) w.heap.size (w.heap.size + 1) g ∧ TCell w' tq t) w w3 g ta tc ts B (Gr.PS.adv s) w.heap.size (w.heap.size + 1) 0 [] 0 0 [] [] [] [] [] [] []) := Lib.hid (HNC.out.call hp3 ho3)
      clear hp3 ho3 HNC c1 c2 ct0 ct1 ct2
      have hcap := HN3.out.holds
      have c1 := hcap.1.1
      have c2 := hcap.1.2
      have ct0 := hcap.2.1
      have ct1 := hcap.2.2.1
      have ct2 := hcap.2.2.2
      clear hcap
      go_wp2_with fail
      refine (is_tok g ta tc ts (Gr.PS.adv s) [46] _ HN3.out.pat (by have := HHERE.out.2; show s.pos + 1 ≤ _; omega)).mono ?_
      rintro e w4 ⟨rfl, hb4⟩
      obtain ⟨b, hb⟩ : ∃ b, b = Gr.isT ts (Gr.PS.adv s) [46] := ⟨_, rfl⟩
      rw [← hb]
      have HBV : Hid (Gr.isT ts (Gr.PS.adv s) [46] = b) := Lib.hid hb.symm
      have HN4 := Lib.hid (HN3.out.below hb4)
      clear hb hb4 HN3 c1 c2 ct0 ct1 ct2
      cases b with
      | false =>
        have HN5 := Lib.hid (HN4.out.below (bdr (bre w4)))
        clear HN4
        go_upto_region 10 with fail
        refine region_anyZ (z := 7) (S := fun w' => Caps w' (w.heap.size + 1 + 1) w.heap.size (w.heap.size + 1) g ∧ TCell w' tq t) (by kernel_rfl) ?_
        refine anyZ_begin (fun hcl0 => ?_)
        refine anyZ_held (by exact HN5.out.holds) (fun hHeld => ?_)
        -- 0: Op.load 48 (Operand.tmp 3)
        refine' anyZ_take (i := 0) (v := _) rfl (by rfl) (by kernel_rfl) (by kernel_rfl) (by kernel_rfl) hcl0 8 (by kernel_rfl) (by kernel_rfl) (fun _ _ _ h => h) (Or.inl ⟨by rfl, fun w hSw => ?hy1⟩) hHeld (fun hcl1 => ?ry1)
        case hy1 => (simp only [List.getElem_toArray, List.getElem_cons_zero]; obtain ⟨⟨hS1, hS2⟩, hS3, hS4, hS5⟩ := hSw; first | (go_simp; with_reducible rfl) | (go_simp; done) | rfl)
        simp only [List.getElem_toArray, List.getElem_cons_zero, Act.put, List.setIfInBounds_toArray, List.set_cons_zero, List.set_cons_succ]
        -- 1: Op.load 48 (Operand.tmp 3)
        refine' anyZ_take (i := 1) (v := _) rfl (by rfl) (by kernel_rfl) (by kernel_rfl) (by kernel_rfl) hcl1 8 (by kernel_rfl) (by kernel_rfl) (fun _ _ _ h => h) (Or.inl ⟨by rfl, fun w hSw => ?hy2⟩) hHeld (fun hcl2 => ?ry2)
        case hy2 => (simp only [List.getElem_toArray, List.getElem_cons_succ, List.getElem_cons_zero]; obtain ⟨⟨hS1, hS2⟩, hS3, hS4, hS5⟩ := hSw; first | (go_simp; with_reducible rfl) | (go_simp; done) | rfl)
        simp only [List.getElem_toArray, List.getElem_cons_succ, List.getElem_cons_zero, Act.put, List.setIfInBounds_toArray, List.set_cons_zero, List.set_cons_succ]
        -- 2: Op.move (Operand.tmp 5)
        refine' anyZ_pure (i := 2) (v := _) rfl (by rfl) (by kernel_rfl) (by kernel_rfl) (by kernel_rfl) hcl2 (fun _ _ _ h => h) (Or.inl ⟨by rfl, fun w _ => ?hy3⟩) (fun _ => hHeld) (fun hcl3 => ?ry3)
        case hy3 => (simp only [List.getElem_toArray, List.getElem_cons_succ, List.getElem_cons_zero]; first | (go_simp; with_reducible rfl) | (go_simp; done) | rfl)
        simp only [List.getElem_toArray, List.getElem_cons_succ, List.getElem_cons_zero, Act.put, List.setIfInBounds_toArray, List.set_cons_zero, List.set_cons_succ]
        -- 3: Op.nilCheck (Operand.tmp 43)
        refine' anyZ_pure (i := 3) (v := _) rfl (by rfl) (by kernel_rfl) (by kernel_rfl) (by kernel_rfl) hcl3 (fun _ _ _ h => h) (Or.inl ⟨by rfl, fun w _ => ?hy4⟩) (fun _ => hHeld) (fun hcl4 => ?ry4)
        case hy4 => (simp only [List.getElem_toArray, List.getElem_cons_succ, List.getElem_cons_zero]; first | (go_simp; with_reducible rfl) | (go_simp; done) | rfl)
        simp only [List.getElem_toArray, List.getElem_cons_succ, List.getElem_cons_zero, Act.put, List.setIfInBounds_toArray, List.set_cons_zero, List.set_cons_succ]
        -- 4: Op.fieldAddr 74 (Operand.tmp 46) 0
        refine' anyZ_pure (i := 4) (v := _) rfl (by rfl) (by kernel_rfl) (by kernel_rfl) (by kernel_rfl) hcl4 (fun _ _ _ h => h) (Or.inl ⟨by rfl, fun w _ => ?hy5⟩) (fun _ => hHeld) (fun hcl5 => ?ry5)
        case hy5 => (simp only [List.getElem_toArray, List.getElem_cons_succ, List.getElem_cons_zero]; first | (go_simp; with_reducible rfl) | (go_simp; done) | rfl)
        simp only [List.getElem_toArray, List.getElem_cons_succ, List.getElem_cons_zero, Act.put, List.setIfInBounds_toArray, List.set_cons_zero, List.set_cons_succ]
        -- 5: Op.fieldAddr 38 (Operand.tmp 47) 0
        refine' anyZ_pure (i := 5) (v := _) rfl (by rfl) (by kernel_rfl) (by kernel_rfl) (by kernel_rfl) hcl5 (fun _ _ _ h => h) (Or.inl ⟨by rfl, fun w _ => ?hy6⟩) (fun _ => hHeld) (fun hcl6 => ?ry6)
        case hy6 => (simp only [List.getElem_toArray, List.getElem_cons_succ, List.getElem_cons_zero]; first | (go_simp; with_reducible rfl) | (go_simp; done) | rfl)
        simp only [List.getElem_toArray, List.getElem_cons_succ, List.getElem_cons_zero, Act.put, List.setIfInBounds_toArray, List.set_cons_zero, List.set_cons_succ]
        -- 6: Op.store 5 (Operand.tmp 48) (Operand.const (Value.int IntKin
        refine anyZ_one (i := 6) hcl6 (by kernel_rfl) (by simp only [List.getElem?_toArray, List.getElem?_cons_succ, List.getElem?_cons_zero]; rfl) (by rfl) (fun hcl7 K hK => ?_)
        generalize w4.drew = W5 at *
        obtain ⟨kvb, psb, hrowb, -, -⟩ := HN5.out.box
        have hfz := fun i => frozen_of_row _ (w.heap.size + 1) i _ _ hrowb
        have b0 := cell_of_row _ (w.heap.size + 1) 0 _ _ _ hrowb
        have b2 := cell_of_row _ (w.heap.size + 1) 2 _ _ _ hrowb
        have b7 := cell_of_row _ (w.heap.size + 1) 7 _ _ _ hrowb
        clear hrowb
        go_simp
        have HN7 := Lib.hid (HN5.out.kind 15)
        refine hK _ _ (fun _ => ?_) ?_
        · exact HN7.out.holds
        clear hK K hHeld
        try simp only [Act.put, List.setIfInBounds_toArray, List.set_cons_zero, List.set_cons_succ]
        refine anyZ_chain_at (by kernel_rfl) ?_
        simp only [List.drop_succ_cons, List.drop_zero]
        obtain ⟨kvb, psb, hrowb, -, -⟩ := HN7.out.box
        have hfz := fun i => frozen_of_row _ (w.heap.size + 1) i _ _ hrowb
        have b0 := cell_of_row _ (w.heap.size + 1) 0 _ _ _ hrowb
        have b2 := cell_of_row _ (w.heap.size + 1) 2 _ _ _ hrowb
        have b7 := cell_of_row _ (w.heap.size + 1) 7 _ _ _ hrowb
        clear hrowb
        have hnz := HN7.out.target t.text
        clear HN5
        go_upto_region 27 with fail
        generalize (W5.setCell ⟨w.heap.size + 1, 0, none⟩ (.int .u8 15)).setCell ⟨w.heap.size + 1, 7, none⟩ (.string (mk8 t.text)) = W9 at *
        have HNZ := Lib.hid hnz
        clear hnz hfz b0 b2 b7 HN7
        have hcap := HNZ.out.holds
        have c1 := hcap.1.1
        have c2 := hcap.1.2
        have ct0 := hcap.2.1
        have ct1 := hcap.2.2.1
        have ct2 := hcap.2.2.2
        clear hcap
        go_wp2_with fail
        refine bodyPost_ret (v := .pointer (some ⟨w.heap.size + 1, 0, none⟩)) (by simp [results, Tryz.results50, go_sem]) rfl ?_
        rw [HR.out, expr_var HK1.out HBV.out, ← HT.out]
        exact ⟨_, _, rfl, HNZ.out.done, HNZ.out.pat, HNZ.out.only⟩
      | true =>
        have hcap := HN4.out.holds
        have c1 := hcap.1.1
        have c2 := hcap.1.2
        have ct0 := hcap.2.1
        have ct1 := hcap.2.2.1
        have ct2 := hcap.2.2.2
        clear hcap
        go_wp2_with fail
        refine (call_tok g ta tc ts B n (Gr.PS.adv s) t.text _ (HIH.out HHERE.out.1) hn (mu_adv HHERE.out.1 HHERE.out.2 HMU.out) ((HOK.out.ok HHERE.out.1).adv HHERE.out.2) HN4.out.asks).mono ?_
        rintro e w5 ⟨v, b5, rfl, hd5, hp5, ho5⟩
        obtain ⟨gv, rfl⟩ := hd5.ptr
        have HD5 := Lib.hid (hd5.base HN4.out.only.size)
        have HO5 := Lib.hid (HN4.out.only.trans ho5 fun _ _ h => h)
        have HP5 := Lib.hid hp5
        clear hd5 ho5 hp5 HN4 c1 c2 ct0 ct1 ct2
        go_wp2_with fail
        refine bodyPost_ret (v := .pointer (some ⟨gv, 0, none⟩)) (by simp [results, Tryz.results50, go_sem]) rfl ?_
        rw [HR.out, expr_call HK1.out HBV.out, ← HT.out]
        exact ⟨_, _, rfl, HD5.out, HP5.out, HO5.out⟩
    · have e3 : decide ((t.kind : Int) = 1) = false := decide_eq_false (by omega)
      have e4 : ((t.kind : Int) == 1) = false := by rw [beq_eq_false_iff_ne]; omega
      have HK1 : Hid ((Gr.now ts s).kind ≠ 1) := Lib.hid (by rw [← HT.out]; exact hk1)
      clear hk2 hk1
      go_wp2_with fail
      refine (take_tok g ta tc ts s Gr.wTrue _ HNC.out.pat hpos).mono ?_
      rintro e wt ⟨rfl, ht1, ho1⟩
      obtain ⟨b, hb⟩ : ∃ b, b = Gr.isT ts s Gr.wTrue := ⟨_, rfl⟩
      rw [← hb]
      have HBV : Hid (Gr.isT ts s Gr.wTrue = b) := Lib.hid hb.symm
      have HNT := Lib.hid (HNC.out.call ht1 ho1)
      clear hb ht1 ho1 HNC c1 c2 ct0 ct1 ct2
      have HB0 := HBV
      clear HBV
      cases b with
      | true =>
        have HHERE : Hid (s.bad = false ∧ s.pos < ts.length) := Lib.hid (Gr.isT_here HB0.out)
        rw [take_yes HB0.out] at HNT
        have HN5 := Lib.hid (HNT.out.below (bdr (bre wt)))
        clear HNT
        go_upto_region 13 with fail
        refine region_anyZ (z := 6) (S := fun w' => Caps w' (w.heap.size + 1 + 1) w.heap.size (w.heap.size + 1) g ∧ TCell w' tq t) (by kernel_rfl) ?_
        refine anyZ_begin (fun hcl0 => ?_)
        refine anyZ_held (by exact HN5.out.holds) (fun hHeld => ?_)
        -- 0: Op.load 48 (Operand.tmp 3)
        refine' anyZ_take (i := 0) (v := _) rfl (by rfl) (by kernel_rfl) (by kernel_rfl) (by kernel_rfl) hcl0 8 (by kernel_rfl) (by kernel_rfl) (fun _ _ _ h => h) (Or.inl ⟨by rfl, fun w hSw => ?hx1⟩) hHeld (fun hcl1 => ?rx1)
        case hx1 => (simp only [List.getElem_toArray, List.getElem_cons_zero]; obtain ⟨⟨hS1, hS2⟩, hS3, hS4, hS5⟩ := hSw; first | (go_simp; with_reducible rfl) | (go_simp; done) | rfl)
        simp only [List.getElem_toArray, List.getElem_cons_zero, Act.put, List.setIfInBounds_toArray, List.set_cons_zero, List.set_cons_succ]
        -- 1: Op.load 48 (Operand.tmp 3)
        refine' anyZ_take (i := 1) (v := _) rfl (by rfl) (by kernel_rfl) (by kernel_rfl) (by kernel_rfl) hcl1 8 (by kernel_rfl) (by kernel_rfl) (fun _ _ _ h => h) (Or.inl ⟨by rfl, fun w hSw => ?hx2⟩) hHeld (fun hcl2 => ?rx2)
        case hx2 => (simp only [List.getElem_toArray, List.getElem_cons_succ, List.getElem_cons_zero]; obtain ⟨⟨hS1, hS2⟩, hS3, hS4, hS5⟩ := hSw; first | (go_simp; with_reducible rfl) | (go_simp; done) | rfl)
        simp only [List.getElem_toArray, List.getElem_cons_succ, List.getElem_cons_zero, Act.put, List.setIfInBounds_toArray, List.set_cons_zero, List.set_cons_succ]
        -- 2: Op.nilCheck (Operand.tmp 57)
        refine' anyZ_pure (i := 2) (v := _) rfl (by rfl) (by kernel_rfl) (by kernel_rfl) (by kernel_rfl) hcl2 (fun _ _ _ h => h) (Or.inl ⟨by rfl, fun w _ => ?hx3⟩) (fun _ => hHeld) (fun hcl3 => ?rx3)
        case hx3 => (simp only [List.getElem_toArray, List.getElem_cons_succ, List.getElem_cons_zero]; first | (go_simp; with_reducible rfl) | (go_simp; done) | rfl)
        simp only [List.getElem_toArray, List.getElem_cons_succ, List.getElem_cons_zero, Act.put, List.setIfInBounds_toArray, List.set_cons_zero, List.set_cons_succ]
        -- 3: Op.fieldAddr 74 (Operand.tmp 59) 0
        refine' anyZ_pure (i := 3) (v := _) rfl (by rfl) (by kernel_rfl) (by kernel_rfl) (by kernel_rfl) hcl3 (fun _ _ _ h => h) (Or.inl ⟨by rfl, fun w _ => ?hx4⟩) (fun _ => hHeld) (fun hcl4 => ?rx4)
        case hx4 => (simp only [List.getElem_toArray, List.getElem_cons_succ, List.getElem_cons_zero]; first | (go_simp; with_reducible rfl) | (go_simp; done) | rfl)
        simp only [List.getElem_toArray, List.getElem_cons_succ, List.getElem_cons_zero, Act.put, List.setIfInBounds_toArray, List.set_cons_zero, List.set_cons_succ]
        -- 4: Op.fieldAddr 38 (Operand.tmp 60) 0
        refine' anyZ_pure (i := 4) (v := _) rfl (by rfl) (by kernel_rfl) (by kernel_rfl) (by kernel_rfl) hcl4 (fun _ _ _ h => h) (Or.inl ⟨by rfl, fun w _ => ?hx5⟩) (fun _ => hHeld) (fun hcl5 => ?rx5)
        case hx5 => (simp only [List.getElem_toArray, List.getElem_cons_succ, List.getElem_cons_zero]; first | (go_simp; with_reducible rfl) | (go_simp; done) | rfl)
        simp only [List.getElem_toArray, List.getElem_cons_succ, List.getElem_cons_zero, Act.put, List.setIfInBounds_toArray, List.set_cons_zero, List.set_cons_succ]
        -- 5: Op.store 5 (Operand.tmp 61) (Operand.const (Value.int IntKin
        refine anyZ_one (i := 5) hcl5 (by kernel_rfl) (by simp only [List.getElem?_toArray, List.getElem?_cons_succ, List.getElem?_cons_zero]; rfl) (by rfl) (fun hcl6 K hK => ?_)
        generalize wt.drew = W5 at *
        obtain ⟨kvb, psb, hrowb, -, -⟩ := HN5.out.box
        have hfz := fun i => frozen_of_row _ (w.heap.size + 1) i _ _ hrowb
        have b0 := cell_of_row _ (w.heap.size + 1) 0 _ _ _ hrowb
        have b2 := cell_of_row _ (w.heap.size + 1) 2 _ _ _ hrowb
        have b7 := cell_of_row _ (w.heap.size + 1) 7 _ _ _ hrowb
        clear hrowb
        go_simp
        have HN7 := Lib.hid (HN5.out.kind 14)
        refine hK _ _ (fun _ => ?_) ?_
        · exact HN7.out.holds
        clear hK K hHeld
        try simp only [Act.put, List.setIfInBounds_toArray, List.set_cons_zero, List.set_cons_succ]
        refine anyZ_chain_at (by kernel_rfl) ?_
        simp only [List.drop_succ_cons, List.drop_zero]
        obtain ⟨kvb, psb, hrowb, -, -⟩ := HN7.out.box
        have hfz := fun i => frozen_of_row _ (w.heap.size + 1) i _ _ hrowb
        have b0 := cell_of_row _ (w.heap.size + 1) 0 _ _ _ hrowb
        have b2 := cell_of_row _ (w.heap.size + 1) 2 _ _ _ hrowb
        have b7 := cell_of_row _ (w.heap.size + 1) 7 _ _ _ hrowb
        clear hrowb
        have hnz := HN7.out.numb 1
        clear HN5
        go_upto_region 27 with fail
        generalize (W5.setCell ⟨w.heap.size + 1, 0, none⟩ (.int .u8 14)).setCell ⟨w.heap.size + 1, 2, none⟩ (.int .i64 1) = W9 at *
        have HNZ := Lib.hid hnz
        clear hnz hfz b0 b2 b7 HN7
        have hcap := HNZ.out.holds
        have c1 := hcap.1.1
        have c2 := hcap.1.2
        have ct0 := hcap.2.1
        have ct1 := hcap.2.2.1
        have ct2 := hcap.2.2.2
        clear hcap
        go_wp2_with fail
        refine bodyPost_ret (v := .pointer (some ⟨w.heap.size + 1, 0, none⟩)) (by simp [results, Tryz.results50, go_sem]) rfl ?_
        rw [HR.out, expr_true HK2.out HK1.out HB0.out]
        exact ⟨_, _, rfl, HNZ.out.done, HNZ.out.pat, HNZ.out.only⟩
      | false =>
        rw [take_no HB0.out] at HNT
        have HNC := HNT
        clear HNT
        have hcap := HNC.out.holds
        have c1 := hcap.1.1
        have c2 := hcap.1.2
        have ct0 := hcap.2.1
        have ct1 := hcap.2.2.1
        have ct2 := hcap.2.2.2
        clear hcap
        go_wp2_with fail
        refine (take_tok g ta tc ts s Gr.wFalse _ HNC.out.pat hpos).mono ?_
        rintro e wt ⟨rfl, ht1, ho1⟩
        obtain ⟨b, hb⟩ : ∃ b, b = Gr.isT ts s Gr.wFalse := ⟨_, rfl⟩
        rw [← hb]
        have HBV : Hid (Gr.isT ts s Gr.wFalse = b) := Lib.hid hb.symm
        have HNT := Lib.hid (HNC.out.call ht1 ho1)
        clear hb ht1 ho1 HNC c1 c2 ct0 ct1 ct2
        have HB1 := HBV
        clear HBV
        cases b with
        | true =>
          have HHERE : Hid (s.bad = false ∧ s.pos < ts.length) := Lib.hid (Gr.isT_here HB1.out)
          rw [take_yes HB1.out] at HNT
          have hcap := HNT.out.holds
          have c1 := hcap.1.1
          have c2 := hcap.1.2
          have ct0 := hcap.2.1
          have ct1 := hcap.2.2.1
          have ct2 := hcap.2.2.2
          clear hcap
          obtain ⟨kvb, psb, hrowb, -, -⟩ := HNT.out.box
          have hfz := fun i => frozen_of_row _ (w.heap.size + 1) i _ _ hrowb
          have b0 := cell_of_row _ (w.heap.size + 1) 0 _ _ _ hrowb
          have b2 := cell_of_row _ (w.heap.size + 1) 2 _ _ _ hrowb
          have b7 := cell_of_row _ (w.heap.size + 1) 7 _ _ _ hrowb
          clear hrowb
          have hnz := HNT.out.kind 14
          clear HNT
          go_upto_region 27 with fail
          generalize wt.setCell ⟨w.heap.size + 1, 0, none⟩ (.int .u8 14) = W9 at *
          have HNZ := Lib.hid hnz
          clear hnz hfz b0 b2 b7 c1 c2 ct0 ct1 ct2
          have hcap := HNZ.out.holds
          have c1 := hcap.1.1
          have c2 := hcap.1.2
          have ct0 := hcap.2.1
          have ct1 := hcap.2.2.1
          have ct2 := hcap.2.2.2
          clear hcap
          go_wp2_with fail
          refine bodyPost_ret (v := .pointer (some ⟨w.heap.size + 1, 0, none⟩)) (by simp [results, Tryz.results50, go_sem]) rfl ?_
          rw [HR.out, expr_false HK2.out HK1.out HB0.out HB1.out]
          exact ⟨_, _, rfl, HNZ.out.done, HNZ.out.pat, HNZ.out.only⟩
        | false =>
          rw [take_no HB1.out] at HNT
          have HNC := HNT
          clear HNT
          have hcap := HNC.out.holds
          have c1 := hcap.1.1
          have c2 := hcap.1.2
          have ct0 := hcap.2.1
          have ct1 := hcap.2.2.1
          have ct2 := hcap.2.2.2
          clear hcap
          go_wp2_with fail
          refine (take_tok g ta tc ts s Gr.wRead _ HNC.out.pat hpos).mono ?_
          rintro e wt ⟨rfl, ht1, ho1⟩
          obtain ⟨b, hb⟩ : ∃ b, b = Gr.isT ts s Gr.wRead := ⟨_, rfl⟩
          rw [← hb]
          have HBV : Hid (Gr.isT ts s Gr.wRead = b) := Lib.hid hb.symm
          have HNT := Lib.hid (HNC.out.call ht1 ho1)
          clear hb ht1 ho1 HNC c1 c2 ct0 ct1 ct2
          have HB2 := HBV
          clear HBV
          cases b with
          | true =>
            have HHERE : Hid (s.bad = false ∧ s.pos < ts.length) := Lib.hid (Gr.isT_here HB2.out)
            rw [take_yes HB2.out] at HNT
            have hcap := HNT.out.holds
            have c1 := hcap.1.1
            have c2 := hcap.1.2
            have ct0 := hcap.2.1
            have ct1 := hcap.2.2.1
            have ct2 := hcap.2.2.2
            clear hcap
            obtain ⟨kvb, psb, hrowb, -, -⟩ := HNT.out.box
            have hfz := fun i => frozen_of_row _ (w.heap.size + 1) i _ _ hrowb
            have b0 := cell_of_row _ (w.heap.size + 1) 0 _ _ _ hrowb
            have b2 := cell_of_row _ (w.heap.size + 1) 2 _ _ _ hrowb
            have b7 := cell_of_row _ (w.heap.size + 1) 7 _ _ _ hrowb
            clear hrowb
            have hnz := HNT.out.kind 20
            clear HNT
            go_upto_region 27 with fail
            generalize wt.setCell ⟨w.heap.size + 1, 0, none⟩ (.int .u8 20) = W9 at *
            have HNZ := Lib.hid hnz
            clear hnz hfz b0 b2 b7 c1 c2 ct0 ct1 ct2
            have hcap := HNZ.out.holds
            have c1 := hcap.1.1
            have c2 := hcap.1.2
            have ct0 := hcap.2.1
            have ct1 := hcap.2.2.1
            have ct2 := hcap.2.2.2
            clear hcap
            go_wp2_with fail
            refine bodyPost_ret (v := .pointer (some ⟨w.heap.size + 1, 0, none⟩)) (by simp [results, Tryz.results50, go_sem]) rfl ?_
            rw [HR.out, expr_read HK2.out HK1.out HB0.out HB1.out HB2.out]
            exact ⟨_, _, rfl, HNZ.out.done, HNZ.out.pat, HNZ.out.only⟩
          | false =>
            rw [take_no HB2.out] at HNT
            have HNC := HNT
            clear HNT
            have hcap := HNC.out.holds
            have c1 := hcap.1.1
            have c2 := hcap.1.2
            have ct0 := hcap.2.1
            have ct1 := hcap.2.2.1
            have ct2 := hcap.2.2.2
            clear hcap
            go_wp2_with fail
            refine (take_tok g ta tc ts s [33] _ HNC.out.pat hpos).mono ?_
            rintro e wt ⟨rfl, ht1, ho1⟩
            obtain ⟨b, hb⟩ : ∃ b, b = Gr.isT ts s [33] := ⟨_, rfl⟩
            rw [← hb]
            have HBV : Hid (Gr.isT ts s [33] = b) := Lib.hid hb.symm
            have HNT := Lib.hid (HNC.out.call ht1 ho1)
            clear hb ht1 ho1 HNC c1 c2 ct0 ct1 ct2
            have HB3 := HBV
            clear HBV
            cases b with
            | true =>
              have HHERE : Hid (s.bad = false ∧ s.pos < ts.length) := Lib.hid (Gr.isT_here HB3.out)
              rw [take_yes HB3.out] at HNT
              have hcap := HNT.out.holds
              have c1 := hcap.1.1
              have c2 := hcap.1.2
              have ct0 := hcap.2.1
              have ct1 := hcap.2.2.1
              have ct2 := hcap.2.2.2
              clear hcap
              obtain ⟨kvb, psb, hrowb, -, -⟩ := HNT.out.box
              have hfz := fun i => frozen_of_row _ (w.heap.size + 1) i _ _ hrowb
              have b0 := cell_of_row _ (w.heap.size + 1) 0 _ _ _ hrowb
              have b2 := cell_of_row _ (w.heap.size + 1) 2 _ _ _ hrowb
              have b7 := cell_of_row _ (w.heap.size + 1) 7 _ _ _ hrowb
              clear hrowb
              have hn8 := HNT.out.kind 16
              clear HNT
              go_upto_region 20 with fail
              generalize wt.setCell ⟨w.heap.size + 1, 0, none⟩ (.int .u8 16) = W8 at *
              have HN8 := Lib.hid hn8
              clear hn8 hfz b0 b2 b7 c1 c2 ct0 ct1 ct2
              have hcap := HN8.out.holds
              have c1 := hcap.1.1
              have c2 := hcap.1.2
              have ct0 := hcap.2.1
              have ct1 := hcap.2.2.1
              have ct2 := hcap.2.2.2
              clear hcap
              go_wp2_with fail
              refine (within_tok g ta tc ts (Gr.PS.adv s) _ _ W8 HN8.out.pat (by have := HOK.out.deep; show s.deep ≤ _; omega) (fun w' => rfl) (fun _ s2 w2 => (∃ bs, NS (fun w' => Caps w' (w.heap.size + 1 + 1) w.heap.size (w.heap.size + 1) g ∧ TCell w' tq t) w w2 g ta tc ts B s2 w.heap.size (w.heap.size + 1) 16 [] 0 0 [] [] (Gr.oneOf (Gr.expr ts n) ⟨(Gr.PS.adv s).pos, (Gr.PS.adv s).deep + 1, false⟩).1 bs [] [] []) ∧ s2 = (Gr.oneOf (Gr.expr ts n) ⟨(Gr.PS.adv s).pos, (Gr.PS.adv s).deep + 1, false⟩).2) ?_).mono ?_
              · intro w' hb' hd' hp' ho'
                refine (expr1_tok (fun w' => Caps w' (w.heap.size + 1 + 1) w.heap.size (w.heap.size + 1) g ∧ TCell w' tq t) w g w.heap.size (w.heap.size + 1 + 1) (w.heap.size + 1) w.heap.size ta tc ts B n ⟨(Gr.PS.adv s).pos, (Gr.PS.adv s).deep + 1, false⟩ 16 0 [] [] [] 0 w' (HIH.out HHERE.out.1) (mu_deep (mu_adv HHERE.out.1 HHERE.out.2 HMU.out) hb') (fun _ h => h.1) (HN8.out.call hp' ho') (ok_deep ((HOK.out.ok HHERE.out.1).adv HHERE.out.2) hb' hd')).mono ?_
                rintro e w5 ⟨rfl, bs5, hn5⟩
                exact ⟨rfl, _, (show (Gr.oneOf (Gr.expr ts n) ⟨(Gr.PS.adv s).pos, (Gr.PS.adv s).deep + 1, false⟩).2.deep = (Gr.PS.adv s).deep + 1 from (Gr.expr_keeps (ts := ts) n).deep ⟨(Gr.PS.adv s).pos, (Gr.PS.adv s).deep + 1, false⟩), hn5.pat, ⟨bs5, hn5⟩, rfl⟩
              rintro e w6 ⟨rfl, hw6⟩
              have HW6 := Lib.hid hw6
              clear hw6 c1 c2 ct0 ct1 ct2
              have HEND : Hid (∃ bs, NS (fun w' => Caps w' (w.heap.size + 1 + 1) w.heap.size (w.heap.size + 1) g ∧ TCell w' tq t) w w6 g ta tc ts B (Gr.within (Gr.PS.adv s) (Gr.oneOf (Gr.expr ts n)) []).2 w.heap.size (w.heap.size + 1) 16 [] 0 0 [] [] (Gr.within (Gr.PS.adv s) (Gr.oneOf (Gr.expr ts n)) []).1 bs [] [] []) := Lib.hid (by
                rcases HW6.out with ⟨hno, hp6, ho6⟩ | ⟨hyes, w1, s2, w2, hp1, ho1, ⟨⟨bs2, hn2⟩, rfl⟩, hp6, ho6⟩
                · rw [within_no hno]
                  exact ⟨_, HN8.out.call hp6 ho6⟩
                · rw [within_yes hyes]
                  refine ⟨bs2, (hn2.call (s' := _) ?_ ho6)⟩
                  show PAt w6 g ta tc ts ⟨_, (Gr.oneOf (Gr.expr ts n) ⟨(Gr.PS.adv s).pos, (Gr.PS.adv s).deep + 1, false⟩).2.deep - 1, _⟩
                  rw [(show (Gr.oneOf (Gr.expr ts n) ⟨(Gr.PS.adv s).pos, (Gr.PS.adv s).deep + 1, false⟩).2.deep = (Gr.PS.adv s).deep + 1 from (Gr.expr_keeps (ts := ts) n).deep ⟨(Gr.PS.adv s).pos, (Gr.PS.adv s).deep + 1, false⟩)]
                  exact hp6)
              obtain ⟨bs6, hn6⟩ := HEND.out
              have HNZ := Lib.hid hn6
              clear hn6 HEND HW6 HN8
              have hcap := HNZ.out.holds
              have c1 := hcap.1.1
              have c2 := hcap.1.2
              have ct0 := hcap.2.1
              have ct1 := hcap.2.2.1
              have ct2 := hcap.2.2.2
              clear hcap
              go_wp2_with fail
              refine bodyPost_ret (v := .pointer (some ⟨w.heap.size + 1, 0, none⟩)) (by simp [results, Tryz.results50, go_sem]) rfl ?_
              rw [HR.out, expr_not HK2.out HK1.out HB0.out HB1.out HB2.out HB3.out]
              exact ⟨_, _, rfl, HNZ.out.done, HNZ.out.pat, HNZ.out.only⟩
            | false =>
              rw [take_no HB3.out] at HNT
              have HNC := HNT
              clear HNT
              have hcap := HNC.out.holds
              have c1 := hcap.1.1
              have c2 := hcap.1.2
              have ct0 := hcap.2.1
              have ct1 := hcap.2.2.1
              have ct2 := hcap.2.2.2
              clear hcap
              go_wp2_with fail
              refine (take_tok g ta tc ts s [45] _ HNC.out.pat hpos).mono ?_
              rintro e wt ⟨rfl, ht1, ho1⟩
              obtain ⟨b, hb⟩ : ∃ b, b = Gr.isT ts s [45] := ⟨_, rfl⟩
              rw [← hb]
              have HBV : Hid (Gr.isT ts s [45] = b) := Lib.hid hb.symm
              have HNT := Lib.hid (HNC.out.call ht1 ho1)
              clear hb ht1 ho1 HNC c1 c2 ct0 ct1 ct2
              have HB4 := HBV
              clear HBV
              cases b with
              | true =>
                have HHERE : Hid (s.bad = false ∧ s.pos < ts.length) := Lib.hid (Gr.isT_here HB4.out)
                rw [take_yes HB4.out] at HNT
                have hcap := HNT.out.holds
                have c1 := hcap.1.1
                have c2 := hcap.1.2
                have ct0 := hcap.2.1
                have ct1 := hcap.2.2.1
                have ct2 := hcap.2.2.2
                clear hcap
                obtain ⟨kvb, psb, hrowb, -, -⟩ := HNT.out.box
                have hfz := fun i => frozen_of_row _ (w.heap.size + 1) i _ _ hrowb
                have b0 := cell_of_row _ (w.heap.size + 1) 0 _ _ _ hrowb
                have b2 := cell_of_row _ (w.heap.size + 1) 2 _ _ _ hrowb
                have b7 := cell_of_row _ (w.heap.size + 1) 7 _ _ _ hrowb
                clear hrowb
                have hn8 := HNT.out.kind 17
                clear HNT
                go_upto_region 23 with fail
                generalize wt.setCell ⟨w.heap.size + 1, 0, none⟩ (.int .u8 17) = W8 at *
                have HN8 := Lib.hid hn8
                clear hn8 hfz b0 b2 b7 c1 c2 ct0 ct1 ct2
                have hcap := HN8.out.holds
                have c1 := hcap.1.1
                have c2 := hcap.1.2
                have ct0 := hcap.2.1
                have ct1 := hcap.2.2.1
                have ct2 := hcap.2.2.2
                clear hcap
                go_wp2_with fail
                refine (within_tok g ta tc ts (Gr.PS.adv s) _ _ W8 HN8.out.pat (by have := HOK.out.deep; show s.deep ≤ _; omega) (fun w' => rfl) (fun _ s2 w2 => (∃ bs, NS (fun w' => Caps w' (w.heap.size + 1 + 1) w.heap.size (w.heap.size + 1) g ∧ TCell w' tq t) w w2 g ta tc ts B s2 w.heap.size (w.heap.size + 1) 17 [] 0 0 [] [] (Gr.oneOf (Gr.expr ts n) ⟨(Gr.PS.adv s).pos, (Gr.PS.adv s).deep + 1, false⟩).1 bs [] [] []) ∧ s2 = (Gr.oneOf (Gr.expr ts n) ⟨(Gr.PS.adv s).pos, (Gr.PS.adv s).deep + 1, false⟩).2) ?_).mono ?_
                · intro w' hb' hd' hp' ho'
                  refine (expr2_tok (fun w' => Caps w' (w.heap.size + 1 + 1) w.heap.size (w.heap.size + 1) g ∧ TCell w' tq t) w g w.heap.size (w.heap.size + 1 + 1) (w.heap.size + 1) w.heap.size ta tc ts B n ⟨(Gr.PS.adv s).pos, (Gr.PS.adv s).deep + 1, false⟩ 17 0 [] [] [] 0 w' (HIH.out HHERE.out.1) (mu_deep (mu_adv HHERE.out.1 HHERE.out.2 HMU.out) hb') (fun _ h => h.1) (HN8.out.call hp' ho') (ok_deep ((HOK.out.ok HHERE.out.1).adv HHERE.out.2) hb' hd')).mono ?_
                  rintro e w5 ⟨rfl, bs5, hn5⟩
                  exact ⟨rfl, _, (show (Gr.oneOf (Gr.expr ts n) ⟨(Gr.PS.adv s).pos, (Gr.PS.adv s).deep + 1, false⟩).2.deep = (Gr.PS.adv s).deep + 1 from (Gr.expr_keeps (ts := ts) n).deep ⟨(Gr.PS.adv s).pos, (Gr.PS.adv s).deep + 1, false⟩), hn5.pat, ⟨bs5, hn5⟩, rfl⟩
                rintro e w6 ⟨rfl, hw6⟩
                have HW6 := Lib.hid hw6
                clear hw6 c1 c2 ct0 ct1 ct2
                have HEND : Hid (∃ bs, NS (fun w' => Caps w' (w.heap.size + 1 + 1) w.heap.size (w.heap.size + 1) g ∧ TCell w' tq t) w w6 g ta tc ts B (Gr.within (Gr.PS.adv s) (Gr.oneOf (Gr.expr ts n)) []).2 w.heap.size (w.heap.size + 1) 17 [] 0 0 [] [] (Gr.within (Gr.PS.adv s) (Gr.oneOf (Gr.expr ts n)) []).1 bs [] [] []) := Lib.hid (by
                  rcases HW6.out with ⟨hno, hp6, ho6⟩ | ⟨hyes, w1, s2, w2, hp1, ho1, ⟨⟨bs2, hn2⟩, rfl⟩, hp6, ho6⟩
                  · rw [within_no hno]
                    exact ⟨_, HN8.out.call hp6 ho6⟩
                  · rw [within_yes hyes]
                    refine ⟨bs2, (hn2.call (s' := _) ?_ ho6)⟩
                    show PAt w6 g ta tc ts ⟨_, (Gr.oneOf (Gr.expr ts n) ⟨(Gr.PS.adv s).pos, (Gr.PS.adv s).deep + 1, false⟩).2.deep - 1, _⟩
                    rw [(show (Gr.oneOf (Gr.expr ts n) ⟨(Gr.PS.adv s).pos, (Gr.PS.adv s).deep + 1, false⟩).2.deep = (Gr.PS.adv s).deep + 1 from (Gr.expr_keeps (ts := ts) n).deep ⟨(Gr.PS.adv s).pos, (Gr.PS.adv s).deep + 1, false⟩)]
                    exact hp6)
                obtain ⟨bs6, hn6⟩ := HEND.out
                have HNZ := Lib.hid hn6
                clear hn6 HEND HW6 HN8
                have hcap := HNZ.out.holds
                have c1 := hcap.1.1
                have c2 := hcap.1.2
                have ct0 := hcap.2.1
                have ct1 := hcap.2.2.1
                have ct2 := hcap.2.2.2
                clear hcap
                go_wp2_with fail
                refine bodyPost_ret (v := .pointer (some ⟨w.heap.size + 1, 0, none⟩)) (by simp [results, Tryz.results50, go_sem]) rfl ?_
                rw [HR.out, expr_neg HK2.out HK1.out HB0.out HB1.out HB2.out HB3.out HB4.out]
                exact ⟨_, _, rfl, HNZ.out.done, HNZ.out.pat, HNZ.out.only⟩
              | false =>
                rw [take_no HB4.out] at HNT
                have HNC := HNT
                clear HNT
                have hcap := HNC.out.holds
                have c1 := hcap.1.1
                have c2 := hcap.1.2
                have ct0 := hcap.2.1
                have ct1 := hcap.2.2.1
                have ct2 := hcap.2.2.2
                clear hcap
                go_wp2_with fail
                refine (take_tok g ta tc ts s [40] _ HNC.out.pat hpos).mono ?_
                rintro e wt ⟨rfl, ht1, ho1⟩
                obtain ⟨b, hb⟩ : ∃ b, b = Gr.isT ts s [40] := ⟨_, rfl⟩
                rw [← hb]
                have HBV : Hid (Gr.isT ts s [40] = b) := Lib.hid hb.symm
                have HNT := Lib.hid (HNC.out.call ht1 ho1)
                clear hb ht1 ho1 HNC c1 c2 ct0 ct1 ct2
                have HB5 := HBV
                clear HBV
                cases b with
                | true =>
                  have HHERE : Hid (s.bad = false ∧ s.pos < ts.length) := Lib.hid (Gr.isT_here HB5.out)
                  rw [take_yes HB5.out] at HNT
                  have hcap := HNT.out.holds
                  have c1 := hcap.1.1
                  have c2 := hcap.1.2
                  have ct0 := hcap.2.1
                  have ct1 := hcap.2.2.1
                  have ct2 := hcap.2.2.2
                  clear hcap
                  obtain ⟨kvb, psb, hrowb, -, -⟩ := HNT.out.box
                  have hfz := fun i => frozen_of_row _ (w.heap.size + 1) i _ _ hrowb
                  have b0 := cell_of_row _ (w.heap.size + 1) 0 _ _ _ hrowb
                  have b2 := cell_of_row _ (w.heap.size + 1) 2 _ _ _ hrowb
                  have b7 := cell_of_row _ (w.heap.size + 1) 7 _ _ _ hrowb
                  clear hrowb
                  have hn8 := HNT.out.kind 18
                  clear HNT
                  go_upto_region 26 with fail
                  generalize wt.setCell ⟨w.heap.size + 1, 0, none⟩ (.int .u8 18) = W8 at *
                  have HN8 := Lib.hid hn8
                  clear hn8 hfz b0 b2 b7 c1 c2 ct0 ct1 ct2
                  have hcap := HN8.out.holds
                  have c1 := hcap.1.1
                  have c2 := hcap.1.2
                  have ct0 := hcap.2.1
                  have ct1 := hcap.2.2.1
                  have ct2 := hcap.2.2.2
                  clear hcap
                  go_wp2_with fail
                  refine (within_tok g ta tc ts (Gr.PS.adv s) _ _ W8 HN8.out.pat (by have := HOK.out.deep; show s.deep ≤ _; omega) (fun w' => rfl) (fun _ s2 w2 => (∃ bs, NS (fun w' => Caps w' (w.heap.size + 1 + 1) w.heap.size (w.heap.size + 1) g ∧ TCell w' tq t) w w2 g ta tc ts B s2 w.heap.size (w.heap.size + 1) 18 [] ((Gr.binOf ts (Gr.expr ts n) ⟨(Gr.PS.adv s).pos, (Gr.PS.adv s).deep + 1, false⟩).1.1 : Nat) 0 [] [] (Gr.binOf ts (Gr.expr ts n) ⟨(Gr.PS.adv s).pos, (Gr.PS.adv s).deep + 1, false⟩).1.2 bs [] [] []) ∧ s2 = (Gr.binOf ts (Gr.expr ts n) ⟨(Gr.PS.adv s).pos, (Gr.PS.adv s).deep + 1, false⟩).2) ?_).mono ?_
                  · intro w' hb' hd' hp' ho'
                    refine (expr3_tok (fun w' => Caps w' (w.heap.size + 1 + 1) w.heap.size (w.heap.size + 1) g ∧ TCell w' tq t) w g w.heap.size (w.heap.size + 1 + 1) (w.heap.size + 1) w.heap.size ta tc ts B n ⟨(Gr.PS.adv s).pos, (Gr.PS.adv s).deep + 1, false⟩ 18 0 [] [] [] 0 w' (HIH.out HHERE.out.1) (mu_deep (mu_adv HHERE.out.1 HHERE.out.2 HMU.out) hb') (fun _ h => h.1) (HN8.out.call hp' ho') (ok_deep ((HOK.out.ok HHERE.out.1).adv HHERE.out.2) hb' hd') rfl).mono ?_
                    rintro e w5 ⟨rfl, bs5, hn5⟩
                    exact ⟨rfl, _, (show (Gr.binOf ts (Gr.expr ts n) ⟨(Gr.PS.adv s).pos, (Gr.PS.adv s).deep + 1, false⟩).2.deep = (Gr.PS.adv s).deep + 1 from (Gr.binOf_keeps (ts := ts) (Gr.expr_keeps n) (fun s h => by rw [Gr.expr_bad h])).2.2 ⟨(Gr.PS.adv s).pos, (Gr.PS.adv s).deep + 1, false⟩), hn5.pat, ⟨bs5, hn5⟩, rfl⟩
                  rintro e w6 ⟨rfl, hw6⟩
                  have HW6 := Lib.hid hw6
                  clear hw6 c1 c2 ct0 ct1 ct2
                  have HEND : Hid (∃ bs, NS (fun w' => Caps w' (w.heap.size + 1 + 1) w.heap.size (w.heap.size + 1) g ∧ TCell w' tq t) w w6 g ta tc ts B (Gr.within (Gr.PS.adv s) (Gr.binOf ts (Gr.expr ts n)) (0, [])).2 w.heap.size (w.heap.size + 1) 18 [] ((Gr.within (Gr.PS.adv s) (Gr.binOf ts (Gr.expr ts n)) (0, [])).1.1 : Nat) 0 [] [] (Gr.within (Gr.PS.adv s) (Gr.binOf ts (Gr.expr ts n)) (0, [])).1.2 bs [] [] []) := Lib.hid (by
                    rcases HW6.out with ⟨hno, hp6, ho6⟩ | ⟨hyes, w1, s2, w2, hp1, ho1, ⟨⟨bs2, hn2⟩, rfl⟩, hp6, ho6⟩
                    · rw [within_no hno]
                      exact ⟨_, HN8.out.call hp6 ho6⟩
                    · rw [within_yes hyes]
                      refine ⟨bs2, (hn2.call (s' := _) ?_ ho6)⟩
                      show PAt w6 g ta tc ts ⟨_, (Gr.binOf ts (Gr.expr ts n) ⟨(Gr.PS.adv s).pos, (Gr.PS.adv s).deep + 1, false⟩).2.deep - 1, _⟩
                      rw [(show (Gr.binOf ts (Gr.expr ts n) ⟨(Gr.PS.adv s).pos, (Gr.PS.adv s).deep + 1, false⟩).2.deep = (Gr.PS.adv s).deep + 1 from (Gr.binOf_keeps (ts := ts) (Gr.expr_keeps n) (fun s h => by rw [Gr.expr_bad h])).2.2 ⟨(Gr.PS.adv s).pos, (Gr.PS.adv s).deep + 1, false⟩)]
                      exact hp6)
                  obtain ⟨bs6, hn6⟩ := HEND.out
                  have HNZ := Lib.hid hn6
                  clear hn6 HEND HW6 HN8
                  have hcap := HNZ.out.holds
                  have c1 := hcap.1.1
                  have c2 := hcap.1.2
                  have ct0 := hcap.2.1
                  have ct1 := hcap.2.2.1
                  have ct2 := hcap.2.2.2
                  clear hcap
                  go_wp2_with fail
                  refine bodyPost_ret (v := .pointer (some ⟨w.heap.size + 1, 0, none⟩)) (by simp [results, Tryz.results50, go_sem]) rfl ?_
                  rw [HR.out, expr_bin HK2.out HK1.out HB0.out HB1.out HB2.out HB3.out HB4.out HB5.out]
                  exact ⟨_, _, rfl, HNZ.out.done, HNZ.out.pat, HNZ.out.only⟩
                | false =>
                  rw [take_no HB5.out] at HNT
                  have HNC := HNT
                  clear HNT
                  have hcap := HNC.out.holds
                  have c1 := hcap.1.1
                  have c2 := hcap.1.2
                  have ct0 := hcap.2.1
                  have ct1 := hcap.2.2.1
                  have ct2 := hcap.2.2.2
                  clear hcap
                  have c3 := cell_of_row _ g 3 _ _ _ HNC.out.pat.row
                  replace c3 := (show _ = some (Value.bool s.bad) from c3)
                  have gf := fun i => frozen_of_row _ g i _ _ HNC.out.pat.row
                  have hnz := HNC.out.call HNC.out.pat.fail (Only.setCell _ ⟨g, 3, none⟩ _)
                  clear HNC
                  go_upto_region 27 with fail
                  have HNZ := Lib.hid hnz
                  clear hnz c3 gf c1 c2 ct0 ct1 ct2
                  have hcap := HNZ.out.holds
                  have c1 := hcap.1.1
                  have c2 := hcap.1.2
                  have ct0 := hcap.2.1
                  have ct1 := hcap.2.2.1
                  have ct2 := hcap.2.2.2
                  clear hcap
                  go_wp2_with fail
                  refine bodyPost_ret (v := .pointer (some ⟨w.heap.size + 1, 0, none⟩)) (by simp [results, Tryz.results50, go_sem]) rfl ?_
                  rw [HR.out, expr_else HK2.out HK1.out HB0.out HB1.out HB2.out HB3.out HB4.out HB5.out]
                  exact ⟨_, _, rfl, HNZ.out.done, HNZ.out.pat, HNZ.out.only⟩
theorem expr_any (g : Nat) (ta : Option Addr) (tc : Nat) (ts : List Tok) (B : Nat) (hT : TokOk ts) : ∀ n, n ≤ 2000000 → ExprIH g ta tc ts B n
  | 0, _ => fun s w hmu hok h => by
    have hb : s.bad = true := by
      cases hb : s.bad with
      | true => rfl
      | false =>
        have := hok.here hb
        unfold muOf at hmu
        rw [hb] at hmu
        simp only [Bool.false_eq_true, if_false] at hmu
        omega
    have h1 := expr_walk g ta tc ts B 0 s w (fun e => by rw [hb] at e; cases e) (by omega) (by omega) hok hT h
    rw [Gr.expr_bad hb] at h1 ⊢
    exact h1
  | n + 1, hn => fun s w hmu hok h => expr_walk g ta tc ts B n s w (fun _ => expr_any g ta tc ts B hT n (by omega)) (by omega) hmu hok hT h
end Go.Proofs.YtljdphpbalioaaaGreatDoor
