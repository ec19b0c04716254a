/- Walk: functions. -/
import Derived.Test.YtljdphpbalioaaaGreatDoorGrY
namespace Go.Proofs.YtljdphpbalioaaaGreatDoor
open Go.RowKit

section
variable {I : World → Prop} {w0 w w' : World} {g : Nat} {ta : Option Addr} {tc : Nat} {ts : List Tok} {B : Nat} {s s' : PS} {D gt k typ : Nat} {name mod tgt : List UInt8} {num : Int} {kids : List Tr} {bs : List Nat} {pb : List Nat}
theorem NS.start2 (hp : PAt w g ta tc ts s) (htb : Tb B w) (ho : Only w0 w (fun k => k = g)) (hl : B ≤ g ∧ g < w0.heap.size ∧ B ≤ w0.heap.size) (hta : ∀ q, ta = some ⟨q, 0, none⟩ → q < w0.heap.size) (bp : Nat) (hbp : w.cell? ⟨bp, 0, none⟩ = some (.pointer (some ⟨g, 0, none⟩))) (hbg : bp ≠ g) (k : Nat) (name : List UInt8) (num : Int) (typ : Nat) (mod tgt : List UInt8) :
    NS (fun w' => Caps w' (w.heap.size + 1) bp w.heap.size g) w0 ((w.alloc (.cells (boxRow k name num typ 0 (.slice none 0 0) mod tgt (.slice none 0 0) 0) 75)).alloc (.cells #[.pointer (some ⟨w.heap.size, 0, none⟩)] 47))
      g ta tc ts B s w0.heap.size w.heap.size k name num typ mod tgt [] [] [] [] [] := by
  have hg := (Array.getElem?_eq_some_iff.1 hp.row).1
  have hblt : bp < w.heap.size := block_lt_of_cell hbp
  have h1 := NS.first hp htb ho hl hta k name num typ mod tgt
  have hb2 := bal (bre w) (.cells (boxRow k name num typ 0 (.slice none 0 0) mod tgt (.slice none 0 0) 0) 75)
  have hs2 : (w.alloc (.cells (boxRow k name num typ 0 (.slice none 0 0) mod tgt (.slice none 0 0) 0) 75)).heap.size = w.heap.size + 1 := by simp
  generalize w.alloc (.cells (boxRow k name num typ 0 (.slice none 0 0) mod tgt (.slice none 0 0) 0) 75) = w2 at *
  have hb4 := bal (bre w2) (.cells #[.pointer (some ⟨w.heap.size, 0, none⟩)] 47)
  have hc4 := heap_alloc_new w2 (.cells #[.pointer (some ⟨w.heap.size, 0, none⟩)] 47)
  rw [hs2] at hc4
  generalize w2.alloc (.cells #[.pointer (some ⟨w.heap.size, 0, none⟩)] 47) = w3 at *
  refine h1.turned hb4 (fun w5 h5 => ?_)
  have hp3 : w3.cell? ⟨bp, 0, none⟩ = some (.pointer (some ⟨g, 0, none⟩)) := cell_only (cell_only hbp (Only.of_below hb2 fun _ => False) fun h => h) (Only.of_below hb4 fun _ => False) fun h => h
  exact ⟨cell_only (cell_of_row _ _ 0 _ _ _ hc4) h5 (fun e => by rcases e with e | e; · omega
                                                                 · simp at e),
    cell_only hp3 h5 (fun e => by rcases e with e | e; · exact hbg e
                                  · have h6 : bp = w.heap.size := by simpa using e
                                    omega)⟩
/-- a node that is boxed with its one kid -/
theorem NS.boxed {v : Value} {t : Tr} (h : NS I w0 w g ta tc ts B s D gt k name num typ mod tgt kids bs [v] [t] pb) (k2 : Nat) :
    NS I w0 ((w.alloc (.cells #[v] 47)).alloc (.cells (boxRow k2 [] 0 0 0 (.slice none 0 0) [] [] (.slice (some ⟨w.heap.size, 0, none⟩) 1 1) 0) 75)) g ta tc ts B s D gt k name num typ mod tgt kids bs [.pointer (some ⟨w.heap.size + 1, 0, none⟩)] [.mk k2 [] 0 0 [] [] [t]] ((w.heap.size + 1) :: w.heap.size :: pb) := by
  have hb1 := bal (bre w) (.cells #[v] 47)
  have hr1 := ptrs_lit w 0 (Nat.zero_le _) [v] (by simp [maxLen])
  have hs1 : (w.alloc (.cells #[v] 47)).heap.size = w.heap.size + 1 := by simp
  have h1 := h.below hb1
  replace hr1 : OwnPtrs 0 (w.alloc (.cells #[v] 47)) (.slice (some ⟨w.heap.size, 0, none⟩) 1 1) [v] := hr1
  generalize w.alloc (.cells #[v] 47) = w1 at *
  have hb2 := bal (bre w1) (.cells (boxRow k2 [] 0 0 0 (.slice none 0 0) [] [] (.slice (some ⟨w.heap.size, 0, none⟩) 1 1) 0) 75)
  have hr2 := heap_alloc_new w1 (.cells (boxRow k2 [] 0 0 0 (.slice none 0 0) [] [] (.slice (some ⟨w.heap.size, 0, none⟩) 1 1) 0) 75)
  have hs2 : (w1.alloc (.cells (boxRow k2 [] 0 0 0 (.slice none 0 0) [] [] (.slice (some ⟨w.heap.size, 0, none⟩) 1 1) 0) 75)).heap.size = w.heap.size + 2 := by simp; omega
  have h2 := h1.below hb2
  generalize w1.alloc (.cells (boxRow k2 [] 0 0 0 (.slice none 0 0) [] [] (.slice (some ⟨w.heap.size, 0, none⟩) 1 1) 0) 75) = w2 at *
  rw [hs1] at hr2
  have hdw : D ≤ w.heap.size := by have := h.new gt (List.mem_cons_self ..); omega
  have e0 : ∀ l : List Nat, gt :: (bs ++ l) = (gt :: bs) ++ l := fun l => rfl
  have hon := h.once
  rw [e0] at hon
  have hnd := List.nodup_append.1 hon
  refine ⟨h2.pat, h2.tb, h2.only, h2.op, ?_, ?_, fun b hb => ?_, fun w3 h3 => ?_, h2.low, h2.hta⟩
  · simp only [KidsAt]
    refine ⟨_, [], (w.heap.size + 1) :: w.heap.size :: pb, [], rfl, by simp, ?_, rfl, rfl⟩
    simp only [TrAt]
    refine ⟨w.heap.size + 1, .slice (some ⟨w.heap.size, 0, none⟩) 1 1, [v], pb, rfl, hr2, own_only hr1 (Only.of_below hb2 fun _ => False) (fun _ _ h => h), rfl, h2.pend⟩
  · rw [e0]
    refine List.nodup_append.2 ⟨hnd.1, ?_, fun x hx y hy e => ?_⟩
    · refine List.nodup_cons.2 ⟨fun hm => ?_, List.nodup_cons.2 ⟨fun hm => ?_, hnd.2.1⟩⟩
      · rcases List.mem_cons.1 hm with h4 | h4
        · omega
        · have := (h.new _ (by rw [e0]; exact List.mem_append_right _ h4)).2
          omega
      · have := (h.new _ (by rw [e0]; exact List.mem_append_right _ hm)).2
        omega
    · have h4 := (h.new x (by rw [e0]; exact List.mem_append_left _ hx)).2
      rcases List.mem_cons.1 hy with h5 | h5
      · omega
      · rcases List.mem_cons.1 h5 with h5 | h5
        · omega
        · exact hnd.2.2 x hx y h5 e
  · rw [e0] at hb
    rcases List.mem_append.1 hb with hb | hb
    · exact h2.new b (by rw [e0]; exact List.mem_append_left _ hb)
    · rcases List.mem_cons.1 hb with h5 | h5
      · exact ⟨by omega, by omega⟩
      · rcases List.mem_cons.1 h5 with h5 | h5
        · exact ⟨by omega, by omega⟩
        · exact h2.new b (by rw [e0]; exact List.mem_append_right _ h5)
  · refine h.inv w3 (((Only.of_below hb1 (fun k => k = g ∨ k ∈ gt :: (bs ++ pb))).trans (Only.of_below hb2 _) fun _ _ h => h).trans h3 fun i hi hk => ?_)
    rcases hk with hk | hk
    · exact .inl hk
    · rw [e0] at hk
      rcases List.mem_append.1 hk with hk | hk
      · exact .inr (by rw [e0]; exact List.mem_append_left _ hk)
      · rcases List.mem_cons.1 hk with h5 | h5
        · omega
        · rcases List.mem_cons.1 h5 with h5 | h5
          · omega
          · exact .inr (by rw [e0]; exact List.mem_append_right _ h5)
/-- ahead of a node of one's own: the parser's pointer in its cell -/
structure Ahead (w0 w : World) (g : Nat) (ta : Option Addr) (tc : Nat) (ts : List Tok) (B : Nat) (s : PS) (bp : Nat) : Prop where
  pat : PAt w g ta tc ts s
  tb : Tb B w
  only : Only w0 w (fun k => k = g)
  cell : w.cell? ⟨bp, 0, none⟩ = some (.pointer (some ⟨g, 0, none⟩))
  ne : bp ≠ g
  low : B ≤ g ∧ g < w0.heap.size ∧ B ≤ w0.heap.size
  hta : ∀ q, ta = some ⟨q, 0, none⟩ → q < w0.heap.size
theorem Ahead.call {bp : Nat} (h : Ahead w0 w g ta tc ts B s bp) (hp : PAt w' g ta tc ts s') (ho : Only w w' (fun k => k = g)) : Ahead w0 w' g ta tc ts B s' bp :=
  ⟨hp, h.tb.only ho (Nat.le_trans h.low.2.2 h.only.size) (fun k hk => by have : k = g := hk; have := h.low.1; omega), h.only.trans ho fun _ _ h => h, cell_only h.cell ho h.ne, h.ne, h.low, h.hta⟩
theorem Asks.ahead (h : Asks w g ta tc ts B s) : Ahead w (w.alloc (.cells #[.pointer (some ⟨g, 0, none⟩)] 44)) g ta tc ts B s w.heap.size := by
  have hg := (Array.getElem?_eq_some_iff.1 h.pat.row).1
  have hb := bal (bre w) (.cells #[.pointer (some ⟨g, 0, none⟩)] 44)
  exact ⟨h.pat.below hb, h.tb.below (hb.mono h.low), Only.of_below hb _, cell_of_row _ _ 0 _ _ _ (heap_alloc_new w _), by omega, ⟨h.big, hg, h.low⟩, h.hta⟩
end
set_option linter.unusedSimpArgs false in
set_option maxRecDepth 20000 in
set_option maxHeartbeats 3200000 in
theorem function1_tok (I : World → Prop) (w0 : World) (g bp bt gt D : Nat) (ta : Option Addr) (tc : Nat) (ts : List Tok) (B : Nat) (s : PS) (k typ : Nat) (name mod tgt : List UInt8) (num : Int) (kids : List Tr) (bs : List Nat) (w : World) (hI : ∀ w, I w → Caps w bt bp gt g) (h : NS I w0 w g ta tc ts B s D gt k name num typ mod tgt kids bs [] [] []) (hok : Gr.Ok ts s) (hlen : kids.length < 3000000) :
    Calls Tryz.prog 47 #[.pointer (some ⟨bp, 0, none⟩), .pointer (some ⟨bt, 0, none⟩)] w fun e w' => e = .returned (.tuple #[]) ∧
      ∃ bs, NS I w0 w' g ta tc ts B (Gr.param ts s).2 D gt k name num typ mod tgt (kids ++ [(Gr.param ts s).1]) bs [] [] [] := by
  have HN0 := Lib.hid h
  have hcap := hI _ h.holds
  have c1 := hcap.1
  have c2 := hcap.2
  have hfew := h.pat.few
  have hpos : s.pos ≤ 1000000000 := by have := hok.pos; omega
  obtain ⟨R, hR⟩ : ∃ R, R = Gr.param ts s := ⟨_, rfl⟩
  rw [← hR]
  have HR : Hid (R = (.mk 4 (Gr.name ts s).1 0 (Gr.types ts (Gr.name ts s).2).1 [] [] [], (Gr.types ts (Gr.name ts s).2).2)) := Lib.hid hR
  have HOK1 : Hid (Gr.Ok ts (Gr.name ts s).2) := Lib.hid (Gr.name_keeps.ok _ hok)
  clear h hcap hR
  go_enter Tryz.func47, Tryz.ntmps47
  go_wp2_with fail
  refine (name_tok g ta tc ts s _ HN0.out.pat hpos).mono ?_
  rintro e w1 ⟨rfl, hp1, ho1⟩
  obtain ⟨N, hN⟩ : ∃ N, N = Gr.name ts s := ⟨_, rfl⟩
  rw [← hN] at hp1 HR HOK1 ⊢
  have hn1 := HN0.out.call hp1 ho1
  have HN1 := Lib.hid hn1
  have hn2 : NS (Outer I g w1.heap.size D gt k name num typ mod tgt kids bs) w0 (w1.alloc (.cells #[.int .u8 4, .string (mk8 N.1), .int .i64 0, .int .u8 0, .int .u64 0, .slice none 0 0, .string ⟨#[]⟩, .string ⟨#[]⟩, .slice none 0 0, .int .u64 0] 75)) g ta tc ts B N.2 w1.heap.size w1.heap.size 4 N.1 0 0 [] [] [] [] [] [] [] := hn1.nest 4 N.1 0 0 [] []
  clear hN hp1 ho1 HN0 c1 c2 hn1
  go_upto_region 1 with fail
  generalize w1.alloc (.cells #[.int .u8 4, .string (mk8 N.1), .int .i64 0, .int .u8 0, .int .u64 0, .slice none 0 0, .string ⟨#[]⟩, .string ⟨#[]⟩, .slice none 0 0, .int .u64 0] 75) = w2 at *
  have HN2 := Lib.hid hn2
  have hcap := hI _ (hn2.holds.2 _ (Only.refl _ _))
  have c1 := hcap.1
  have c2 := hcap.2
  clear hn2 hcap
  go_wp2_with fail
  refine (types_tok g ta tc ts N.2 _ HN2.out.pat (by have := HOK1.out.pos; omega)).mono ?_
  rintro e w5 ⟨rfl, hp3, ho3⟩
  have HN5 := Lib.hid (HN2.out.call hp3 ho3)
  clear hp3 ho3 HN2 c1 c2
  obtain ⟨Y, hY⟩ : ∃ Y, Y = Gr.types ts N.2 := ⟨_, rfl⟩
  rw [← hY] at HN5 HR ⊢
  clear hY
  obtain ⟨kvb, psb, hrowb, -, -⟩ := HN5.out.box
  have hfz := fun i => frozen_of_row _ w1.heap.size i _ _ hrowb
  have b3 := cell_of_row _ w1.heap.size 3 _ _ _ hrowb
  clear hrowb
  have hn6 := HN5.out.typed Y.1
  clear HN5
  go_upto_region 2 with fail
  generalize w5.setCell ⟨w1.heap.size, 3, none⟩ (.int .u8 (Y.1 : Nat)) = w6 at *
  have hn0 := (NS.unnest hn6 (by have := HN1.out.new gt (List.mem_cons_self ..); omega) HN1.out.low.2.1 HN1.out.low.2.2.1 HN1.out.hta (fun b hb => (HN1.out.op.new b hb).2)).below (bdr (bre w6))
  clear hn6 hfz b3 HN1
  obtain ⟨kv, ps0, hrow0, -, -⟩ := hn0.box
  have hlow := hn0.low
  have hgtl := hn0.new gt (List.mem_cons_self ..)
  have HROW : Hid (∀ w', Only w6.drew w' (fun k => k = g) → w'.heap[gt]? = some (.cells (boxRow k name num typ 0 (.slice none 0 0) mod tgt kv 0) 75 (0, 0))) := Lib.hid (fun w' ho => (ho.block gt hgtl.2 (fun e => by omega)).trans hrow0)
  have HSS : Hid (∀ w', Only w6.drew w' (fun k => k = g) → I w' → I w' ∧ w'.cell? ⟨gt, 8, none⟩ = some kv) := Lib.hid (fun w' ho hi => ⟨hi, cell_of_row w' gt 8 _ _ _ (HROW.out w' ho)⟩)
  have HN0 := Lib.hid hn0
  clear hn0 hrow0 hlow hgtl
  refine region_anyZ (z := 8) (S := fun w' => I w' ∧ w'.cell? ⟨gt, 8, none⟩ = some kv) (by kernel_rfl) ?_
  refine anyZ_begin (fun hcl0 => ?_)
  refine anyZ_held (by exact HSS.out _ (Only.refl _ _) HN0.out.holds) (fun hHeld => ?_)
  -- 0: Op.load 48 (Operand.tmp 1)
  refine' anyZ_take (i := 0) (v := _) rfl (by rfl) (by kernel_rfl) (by kernel_rfl) (by kernel_rfl) hcl0 8 (by kernel_rfl) (by kernel_rfl) (fun _ _ _ h => h) (Or.inl ⟨by rfl, fun w hSw => ?hy1⟩) hHeld (fun hcl1 => ?ry1)
  case hy1 => (simp only [List.getElem_toArray, List.getElem_cons_zero]; obtain ⟨hSi, hS8⟩ := hSw; obtain ⟨hS1, hS2⟩ := hI _ hSi; first | (go_simp; with_reducible rfl) | (go_simp; done) | rfl)
  simp only [List.getElem_toArray, List.getElem_cons_zero, Act.put, List.setIfInBounds_toArray, List.set_cons_zero, List.set_cons_succ]
  -- 1: Op.load 48 (Operand.tmp 1)
  refine' anyZ_take (i := 1) (v := _) rfl (by rfl) (by kernel_rfl) (by kernel_rfl) (by kernel_rfl) hcl1 8 (by kernel_rfl) (by kernel_rfl) (fun _ _ _ h => h) (Or.inl ⟨by rfl, fun w hSw => ?hy2⟩) hHeld (fun hcl2 => ?ry2)
  case hy2 => (simp only [List.getElem_toArray, List.getElem_cons_succ, List.getElem_cons_zero]; obtain ⟨hSi, hS8⟩ := hSw; obtain ⟨hS1, hS2⟩ := hI _ hSi; first | (go_simp; with_reducible rfl) | (go_simp; done) | rfl)
  simp only [List.getElem_toArray, List.getElem_cons_succ, List.getElem_cons_zero, Act.put, List.setIfInBounds_toArray, List.set_cons_zero, List.set_cons_succ]
  -- 2: Op.nilCheck (Operand.tmp 15)
  refine' anyZ_pure (i := 2) (v := _) rfl (by rfl) (by kernel_rfl) (by kernel_rfl) (by kernel_rfl) hcl2 (fun _ _ _ h => h) (Or.inl ⟨by rfl, fun w _ => ?hy3⟩) (fun _ => hHeld) (fun hcl3 => ?ry3)
  case hy3 => (simp only [List.getElem_toArray, List.getElem_cons_succ, List.getElem_cons_zero]; first | (go_simp; with_reducible rfl) | (go_simp; done) | rfl)
  simp only [List.getElem_toArray, List.getElem_cons_succ, List.getElem_cons_zero, Act.put, List.setIfInBounds_toArray, List.set_cons_zero, List.set_cons_succ]
  -- 3: Op.fieldAddr 74 (Operand.tmp 16) 3
  refine' anyZ_pure (i := 3) (v := _) rfl (by rfl) (by kernel_rfl) (by kernel_rfl) (by kernel_rfl) hcl3 (fun _ _ _ h => h) (Or.inl ⟨by rfl, fun w _ => ?hy4⟩) (fun _ => hHeld) (fun hcl4 => ?ry4)
  case hy4 => (simp only [List.getElem_toArray, List.getElem_cons_succ, List.getElem_cons_zero]; first | (go_simp; with_reducible rfl) | (go_simp; done) | rfl)
  simp only [List.getElem_toArray, List.getElem_cons_succ, List.getElem_cons_zero, Act.put, List.setIfInBounds_toArray, List.set_cons_zero, List.set_cons_succ]
  -- 4: Op.load 54 (Operand.tmp 17)
  refine' anyZ_take (i := 4) (v := _) rfl (by rfl) (by kernel_rfl) (by kernel_rfl) (by kernel_rfl) hcl4 8 (by kernel_rfl) (by kernel_rfl) (fun _ _ _ h => h) (Or.inl ⟨by rfl, fun w hSw => ?hy5⟩) hHeld (fun hcl5 => ?ry5)
  case hy5 => (simp only [List.getElem_toArray, List.getElem_cons_succ, List.getElem_cons_zero]; obtain ⟨hSi, hS8⟩ := hSw; obtain ⟨hS1, hS2⟩ := hI _ hSi; first | (go_simp; with_reducible rfl) | (go_simp; done) | rfl)
  simp only [List.getElem_toArray, List.getElem_cons_succ, List.getElem_cons_zero, Act.put, List.setIfInBounds_toArray, List.set_cons_zero, List.set_cons_succ]
  -- 5: Op.move (Operand.tmp 2)
  refine' anyZ_pure (i := 5) (v := _) rfl (by rfl) (by kernel_rfl) (by kernel_rfl) (by kernel_rfl) hcl5 (fun _ _ _ h => h) (Or.inl ⟨by rfl, fun w _ => ?hy6⟩) (fun _ => hHeld) (fun hcl6 => ?ry6)
  case hy6 => (simp only [List.getElem_toArray, List.getElem_cons_succ, List.getElem_cons_zero]; first | (go_simp; with_reducible rfl) | (go_simp; done) | rfl)
  simp only [List.getElem_toArray, List.getElem_cons_succ, List.getElem_cons_zero, Act.put, List.setIfInBounds_toArray, List.set_cons_zero, List.set_cons_succ]
  -- 6: Op.buildSlice 54 1 #[(0, Operand.tmp 19)]
  refine anyZ_one (i := 6) hcl6 (by kernel_rfl) (by simp only [List.getElem?_toArray, List.getElem?_cons_succ, List.getElem?_cons_zero]; rfl) (by rfl) (fun hcl7 K hK => ?_)
  generalize w6.drew = W6 at *
  go_simp
  have HO2 := Lib.hid (Only.refl W6 (fun k => k = g))
  have HN2 := HN0
  refine hK _ _ (fun _ => ?_) ?_
  · exact HSS.out _ (Only.of_below (bal (bre W6) _) _) (HN0.out.below (bal (bre W6) _)).holds
  clear hK K hHeld
  try simp only [Act.put, List.setIfInBounds_toArray, List.set_cons_zero, List.set_cons_succ]
  -- 7: Op.call { callee := Callee.builtin Builtin.append, args := #
  refine anyZ_one (i := 7) hcl7 (by kernel_rfl) (by simp only [List.getElem?_toArray, List.getElem?_cons_succ, List.getElem?_cons_zero]; rfl) (by rfl) (fun hcl8 K hK => ?_)
  have hb3 := bal (bre W6) (.cells #[.pointer (some ⟨w1.heap.size, 0, none⟩)] 47)
  have hrow3 := HROW.out _ (HO2.out.trans (Only.of_below hb3 _) fun _ _ h => h)
  obtain ⟨ps, hown, hlen, hngt, hinv, happ⟩ := (HN2.out.below hb3).app hrow3
  have hDsz := (HN2.out.below hb3).new gt (List.mem_cons_self ..)
  have hnews : ∀ j u, [Value.pointer (some ⟨w1.heap.size, 0, none⟩)][j]? = some u → (W6.alloc (.cells #[.pointer (some ⟨w1.heap.size, 0, none⟩)] 47)).cell? ((⟨W6.heap.size, 0, none⟩ : Addr).add j) = some u := fun j u hu => by
    match j, hu with
    | 0, hu => cases hu; exact cell_of_row _ _ 0 _ _ _ (heap_alloc_new W6 _)
  generalize W6.alloc (.cells #[.pointer (some ⟨w1.heap.size, 0, none⟩)] 47) = W3 at *
  refine wp_app' _ _ 53 47 1 8 rowPtr rfl _ _ ps.length ps rfl hown ⟨W6.heap.size, 0, none⟩ 1 1 [.pointer (some ⟨w1.heap.size, 0, none⟩)] rfl rfl hnews (by simp [Value.oneCell']) (by unfold maxLen; omega) (by omega) (Nat.le_of_lt (Nat.lt_of_le_of_lt hDsz.1 hDsz.2)) ?_
  intro v8 w8 k8 hg8 hs8
  have HN8 := Lib.hid (happ w8 v8 hg8 hs8 (by unfold OwnPtrs; rw [List.length_append, List.length_singleton]; exact k8))
  obtain ⟨a8, c8, rfl, -⟩ := ownsRow_lies k8
  have hr8 := ((Only.of_grown hg8).block gt hDsz.2 hngt).trans hrow3
  have HI8 := Lib.hid (hinv w8 hg8)
  have HR8 := Lib.hid hr8
  clear hb3 hrow3 hown hlen hngt hinv happ hDsz hnews hg8 hs8 k8 hr8
  refine hK _ _ (fun _ => ?_) ?_
  · exact ⟨HI8.out, cell_of_row w8 gt 8 _ _ _ HR8.out⟩
  clear hK K
  try simp only [Act.put, List.setIfInBounds_toArray, List.set_cons_zero, List.set_cons_succ]
  refine anyZ_chain_at (by kernel_rfl) ?_
  simp only [List.drop_succ_cons, List.drop_zero]
  have hf8 := fun i => frozen_of_row w8 gt i _ _ HR8.out
  have hk8 := cell_of_row w8 gt 8 _ _ _ HR8.out
  obtain ⟨bs', hn8⟩ := HN8.out
  have HNZ := Lib.hid hn8
  clear HR8 HI8 HN8 hn8 HN2 HN0
  go_wp2_with fail
  refine bodyPost_end (results_none rfl _ _ _) rfl ?_
  exact ⟨rfl, bs', by rw [HR.out]; exact HNZ.out⟩
theorem till_len {α : Type} {ts : List Tok} (e : List UInt8) (eat : Bool) (f : PS → α × PS) : ∀ n s, (Gr.till ts e eat f n s).1.length ≤ n
  | 0, s => Nat.le_refl _
  | n + 1, s => by
    unfold Gr.till
    split
    · exact Nat.zero_le _
    · split
      · exact Nat.zero_le _
      · exact Nat.succ_le_succ (till_len e eat f n _)
theorem rounds_len {α : Type} {ts : List Tok} (e : List UInt8) (f : PS → α × PS) : ∀ n s, (Gr.rounds ts e f n s).1.length ≤ n
  | 0, s => Nat.le_refl _
  | n + 1, s => by
    unfold Gr.rounds
    split
    · exact Nat.zero_le _
    · split
      · exact Nat.succ_le_succ (Nat.zero_le _)
      · exact Nat.succ_le_succ (rounds_len e f n _)
theorem list_len {α : Type} {ts : List Tok} (e : List UInt8) (f : PS → α × PS) (n : Nat) (s : PS) : (Gr.listOf ts e f n s).1.length ≤ n := by
  unfold Gr.listOf
  split
  · exact Nat.zero_le _
  · exact rounds_len e f n s
theorem funcOf_eq (ts : List Tok) (m : Nat) (s : PS) : Gr.funcOf ts m s = (.mk 3 (Gr.name ts (Gr.want1 ts s Gr.wFunc)).1 0 (Gr.types ts (Gr.listOf ts [41] (Gr.param ts) m (Gr.want1 ts (Gr.name ts (Gr.want1 ts s Gr.wFunc)).2 [40])).2).1 [] []
    ((Gr.listOf ts [41] (Gr.param ts) m (Gr.want1 ts (Gr.name ts (Gr.want1 ts s Gr.wFunc)).2 [40])).1 ++ [.mk 5 [] 0 0 [] [] ((Gr.till ts Gr.wReturn false (Gr.stmt ts m m) m (Gr.want1 ts (Gr.types ts (Gr.listOf ts [41] (Gr.param ts) m (Gr.want1 ts (Gr.name ts (Gr.want1 ts s Gr.wFunc)).2 [40])).2).2 [123])).1 ++ [.mk 10 [] 0 0 [] [] [(Gr.expr ts m (Gr.want1 ts (Gr.till ts Gr.wReturn false (Gr.stmt ts m m) m (Gr.want1 ts (Gr.types ts (Gr.listOf ts [41] (Gr.param ts) m (Gr.want1 ts (Gr.name ts (Gr.want1 ts s Gr.wFunc)).2 [40])).2).2 [123])).2 Gr.wReturn)).1]])]),
    Gr.want ts (Gr.expr ts m (Gr.want1 ts (Gr.till ts Gr.wReturn false (Gr.stmt ts m m) m (Gr.want1 ts (Gr.types ts (Gr.listOf ts [41] (Gr.param ts) m (Gr.want1 ts (Gr.name ts (Gr.want1 ts s Gr.wFunc)).2 [40])).2).2 [123])).2 Gr.wReturn)).2 [[59], [125]]) := rfl
set_option linter.unusedSimpArgs false in
set_option maxRecDepth 20000 in
set_option maxHeartbeats 3200000 in
theorem func_walk (g : Nat) (ta : Option Addr) (tc : Nat) (ts : List Tok) (B m : Nat) (s : PS) (w : World) (hm : ts.length + 1 ≤ m) (hm2 : m ≤ 2000000) (hok : Gr.Ok ts s) (hT : TokOk ts) (h : Asks w g ta tc ts B s) :
    Calls Tryz.prog 28 #[.pointer (some ⟨g, 0, none⟩)] w (TreeSays g ta tc ts w (Gr.funcOf ts m s)) := by
  have HST := Lib.hid (stmt_any g ta tc ts B m hm hm2 hT m hm2)
  have HEX := Lib.hid (expr_any g ta tc ts B hT m hm2)
  have HM := Lib.hid (And.intro hm hm2)
  have HA0 := Lib.hid h.ahead
  have hfew := h.pat.few
  have HO0 := Lib.hid hok
  obtain ⟨R, hR⟩ : ∃ R, R = Gr.funcOf ts m s := ⟨_, rfl⟩
  rw [← hR]
  have HR := Lib.hid (hR.trans (funcOf_eq ts m s))
  clear h hok hT hm hm2 hR
  go_enter Tryz.func28, Tryz.ntmps28
  go_upto_region 1 with fail
  generalize w.alloc (.cells #[.pointer (some ⟨g, 0, none⟩)] 44) = w1 at *
  have c2 := HA0.out.cell
  go_wp2_with fail
  have hb5 := bal (bre w1) (.cells #[.string (mk8 Gr.wFunc)] 9)
  have hr5 := heap_alloc_new w1 (.cells #[.string (mk8 Gr.wFunc)] 9)
  have hng : w1.heap.size ≠ g := fun e => by have := (Array.getElem?_eq_some_iff.1 HA0.out.pat.row).1; omega
  have hn5 := HA0.out.call (HA0.out.pat.below hb5) (Only.of_below hb5 _)
  refine (want_tok g ta tc ts s [Gr.wFunc] w1.heap.size 1 1 _ hn5.pat rfl (by have := HO0.out.pos; omega) (fun j x hx => ?_) hng).mono ?_
  · match j, hx with
    | 0, hx => cases hx; exact cell_of_row _ _ 0 _ _ _ hr5
  rintro e w2 ⟨rfl, h1, ho1⟩
  have HA1 := Lib.hid (hn5.call h1 ho1)
  clear hb5 hr5 hng hn5 h1 ho1 HA0
  have HO1 : Hid (Gr.Ok ts (Gr.want1 ts s Gr.wFunc)) := Lib.hid (HO0.out.want1 _)
  clear c2
  have c2 := HA1.out.cell
  go_wp2_with fail
  refine (name_tok g ta tc ts (Gr.want1 ts s Gr.wFunc) _ HA1.out.pat (by have := HO1.out.pos; omega)).mono ?_
  rintro e w3 ⟨rfl, hp3, ho3⟩
  have HO2 : Hid (Gr.Ok ts (Gr.name ts (Gr.want1 ts s Gr.wFunc)).2) := Lib.hid (Gr.name_keeps.ok _ HO1.out)
  have ha3 := HA1.out.call hp3 ho3
  obtain ⟨N, hN⟩ : ∃ N, N = Gr.name ts (Gr.want1 ts s Gr.wFunc) := ⟨_, rfl⟩
  rw [← hN] at ha3 HR HO2 ⊢
  have hn4 : NS (fun w' => Caps w' (w3.heap.size + 1) w.heap.size w3.heap.size g) w ((w3.alloc (.cells #[.int .u8 3, .string (mk8 N.1), .int .i64 0, .int .u8 0, .int .u64 0, .slice none 0 0, .string ⟨#[]⟩, .string ⟨#[]⟩, .slice none 0 0, .int .u64 0] 75)).alloc (.cells #[.pointer (some ⟨w3.heap.size, 0, none⟩)] 47)) g ta tc ts B N.2 w.heap.size w3.heap.size 3 N.1 0 0 [] [] [] [] [] [] [] := NS.start2 ha3.pat ha3.tb ha3.only ha3.low ha3.hta w.heap.size ha3.cell ha3.ne 3 N.1 0 0 [] []
  clear hN hp3 ho3 HA1 c2 ha3
  go_upto_region 3 with fail
  generalize (w3.alloc (.cells #[.int .u8 3, .string (mk8 N.1), .int .i64 0, .int .u8 0, .int .u64 0, .slice none 0 0, .string ⟨#[]⟩, .string ⟨#[]⟩, .slice none 0 0, .int .u64 0] 75)).alloc (.cells #[.pointer (some ⟨w3.heap.size, 0, none⟩)] 47) = w4 at *
  have HN4 := Lib.hid hn4
  clear hn4
  have hcap := HN4.out.holds
  have c1 := hcap.1
  have c2 := hcap.2
  clear hcap
  go_wp2_with fail
  have hb5 := bal (bre w4) (.cells #[.string (mk8 [40])] 9)
  have hr5 := heap_alloc_new w4 (.cells #[.string (mk8 [40])] 9)
  have hng : w4.heap.size ≠ g := fun e => by have := (Array.getElem?_eq_some_iff.1 HN4.out.pat.row).1; omega
  have hn5 := HN4.out.below hb5
  refine (want_tok g ta tc ts N.2 [[40]] w4.heap.size 1 1 _ hn5.pat rfl (by have := HO2.out.pos; omega) (fun j x hx => ?_) hng).mono ?_
  · match j, hx with
    | 0, hx => cases hx; exact cell_of_row _ _ 0 _ _ _ hr5
  rintro e w5 ⟨rfl, h1, ho1⟩
  have HN5 : Hid (NS (fun w' => Caps w' (w3.heap.size + 1) w.heap.size w3.heap.size g) w w5 g ta tc ts B (Gr.want1 ts N.2 [40]) w.heap.size w3.heap.size 3 N.1 0 0 [] [] [] [] [] [] []) := Lib.hid (hn5.call h1 ho1)
  clear hb5 hr5 hng hn5 h1 ho1 HN4
  have HO3 : Hid (Gr.Ok ts (Gr.want1 ts N.2 [40])) := Lib.hid (HO2.out.want1 _)
  clear c1 c2
  have hcap := HN5.out.holds
  have c1 := hcap.1
  have c2 := hcap.2
  clear hcap
  go_wp2_with fail
  refine (list_tok (α := Tr) g ta tc ts (Gr.want1 ts N.2 [40]) [41] _ _ (Gr.param ts) m (fun l w' => ∃ s' bs, NS (fun w' => Caps w' (w3.heap.size + 1) w.heap.size w3.heap.size g) w w' g ta tc ts B s' w.heap.size w3.heap.size 3 N.1 0 0 [] [] l bs [] [] []) (Gr.Ok ts) [] w5 HN5.out.pat (fun w' => rfl) ⟨_, _, HN5.out⟩ HO3.out ?_ (mu_top HM.out.1 _) ?_ ?_).mono ?_
  · exact ⟨fun s' h' => ⟨by have := h'.pos; omega, h'.here⟩, fun s' x h' hx => h'.adv (Gr.isT_here hx).2, fun s' h' => h'.fail, fun s' h' _ => ⟨(Gr.param_keeps (ts := ts)).ok s' h', (Gr.param_keeps (ts := ts)).fwd s'⟩⟩
  · rintro l wa wb s' ⟨s2, bs2, hn2⟩ ho hp
    exact ⟨_, _, hn2.call hp ho⟩
  · rintro l s' w' hp' hok' hbad' ⟨s2, bs2, hn2⟩ hmu' hl
    refine (function1_tok (fun w' => Caps w' (w3.heap.size + 1) w.heap.size w3.heap.size g) w g w.heap.size (w3.heap.size + 1) w3.heap.size w.heap.size ta tc ts B s' 3 0 N.1 [] [] 0 l bs2 w' (fun _ h => h) (hn2.call hp' (Only.refl _ _)) hok' (by rw [List.length_nil] at hl; have := HM.out.2; omega)).mono ?_
    rintro e wb ⟨rfl, bs3, hn3⟩
    exact ⟨rfl, hn3.pat, _, _, hn3⟩
  rintro e wl ⟨rfl, hpl, sl, bsf, hnl⟩
  have HO4 : Hid (Gr.Ok ts (Gr.listOf ts [41] (Gr.param ts) m (Gr.want1 ts N.2 [40])).2) := Lib.hid ((Gr.list_keeps [41] Gr.param_keeps m).ok _ HO3.out)
  obtain ⟨PL, hPL⟩ : ∃ PL, PL = Gr.listOf ts [41] (Gr.param ts) m (Gr.want1 ts N.2 [40]) := ⟨_, rfl⟩
  rw [← hPL] at hpl hnl HR HO4
  have HPL : Hid (PL.1.length ≤ m) := Lib.hid (by rw [hPL]; exact list_len _ _ _ _)
  have HL5 : Hid (NS (fun w' => Caps w' (w3.heap.size + 1) w.heap.size w3.heap.size g) w wl.drew g ta tc ts B PL.2 w.heap.size w3.heap.size 3 N.1 0 0 [] [] PL.1 bsf [] [] []) := Lib.hid ((hnl.call hpl (Only.refl _ _)).below (bdr (bre wl)))
  clear hpl hnl hPL HN5 c1 c2
  go_upto_region 5 with fail
  refine region_anyZ (z := 3) (S := fun w' => Caps w' (w3.heap.size + 1) w.heap.size w3.heap.size g) (by kernel_rfl) ?_
  refine anyZ_begin (fun hcl0 => ?_)
  refine anyZ_held (by exact HL5.out.holds) (fun hHeld => ?_)
  -- 0: Op.load 48 (Operand.tmp 3)
  refine' anyZ_take (i := 0) (v := _) rfl (by rfl) (by kernel_rfl) (by kernel_rfl) (by kernel_rfl) hcl0 8 (by kernel_rfl) (by kernel_rfl) (fun _ _ _ h => h) (Or.inl ⟨by rfl, fun w hSw => ?hz1⟩) hHeld (fun hcl1 => ?rz1)
  case hz1 => (simp only [List.getElem_toArray, List.getElem_cons_zero]; obtain ⟨hS1, hS2⟩ := hSw; first | (go_simp; with_reducible rfl) | (go_simp; done) | rfl)
  simp only [List.getElem_toArray, List.getElem_cons_zero, Act.put, List.setIfInBounds_toArray, List.set_cons_zero, List.set_cons_succ]
  -- 1: Op.load 45 (Operand.tmp 1)
  refine' anyZ_take (i := 1) (v := _) rfl (by rfl) (by kernel_rfl) (by kernel_rfl) (by kernel_rfl) hcl1 8 (by kernel_rfl) (by kernel_rfl) (fun _ _ _ h => h) (Or.inl ⟨by rfl, fun w hSw => ?hz2⟩) hHeld (fun hcl2 => ?rz2)
  case hz2 => (simp only [List.getElem_toArray, List.getElem_cons_succ, List.getElem_cons_zero]; obtain ⟨hS1, hS2⟩ := hSw; first | (go_simp; with_reducible rfl) | (go_simp; done) | rfl)
  simp only [List.getElem_toArray, List.getElem_cons_succ, List.getElem_cons_zero, Act.put, List.setIfInBounds_toArray, List.set_cons_zero, List.set_cons_succ]
  -- 2: Op.call { callee := Callee.value (Operand.func 47), args := 
  refine anyZ_one (i := 2) hcl2 (by kernel_rfl) (by simp only [List.getElem?_toArray, List.getElem?_cons_succ, List.getElem?_cons_zero]; rfl) (by rfl) (fun hcl3 K hK => ?_)
  go_simp
  refine (types_tok g ta tc ts PL.2 _ HL5.out.pat (by have := HO4.out.pos; omega)).mono ?_
  rintro e w6 ⟨rfl, hp3, ho3⟩
  have HN6 := Lib.hid (HL5.out.call hp3 ho3)
  clear hp3 ho3
  refine hK _ _ (fun _ => ?_) ?_
  · exact HN6.out.holds
  clear hK K hHeld
  try simp only [Act.put, List.setIfInBounds_toArray, List.set_cons_zero, List.set_cons_succ]
  refine anyZ_chain_at (by kernel_rfl) ?_
  simp only [List.drop_succ_cons, List.drop_zero]
  obtain ⟨Y, hY⟩ : ∃ Y, Y = Gr.types ts PL.2 := ⟨_, rfl⟩
  have HO5 : Hid (Gr.Ok ts (Gr.types ts PL.2).2) := Lib.hid (Gr.types_keeps.ok _ HO4.out)
  rw [← hY] at HN6 HR HO5 ⊢
  clear hY HL5
  obtain ⟨kvb, psb, hrowb, hkvo, hkvl⟩ := HN6.out.box
  have hfz := fun i => frozen_of_row _ w3.heap.size i _ _ hrowb
  have b3 := cell_of_row _ w3.heap.size 3 _ _ _ hrowb
  have hn7 := HN6.out.typed Y.1
  clear hrowb hkvo hkvl HN6
  go_upto_region 6 with fail
  generalize w6.setCell ⟨w3.heap.size, 3, none⟩ (.int .u8 (Y.1 : Nat)) = w7 at *
  have HN7 := Lib.hid hn7
  clear hn7 hfz b3
  have hcap := HN7.out.holds
  have c1 := hcap.1
  have c2 := hcap.2
  clear hcap
  go_wp2_with fail
  have hb5 := bal (bre w7) (.cells #[.string (mk8 [123])] 9)
  have hr5 := heap_alloc_new w7 (.cells #[.string (mk8 [123])] 9)
  have hng : w7.heap.size ≠ g := fun e => by have := (Array.getElem?_eq_some_iff.1 HN7.out.pat.row).1; omega
  have hn5 := HN7.out.below hb5
  refine (want_tok g ta tc ts Y.2 [[123]] w7.heap.size 1 1 _ hn5.pat rfl (by have := HO5.out.pos; omega) (fun j x hx => ?_) hng).mono ?_
  · match j, hx with
    | 0, hx => cases hx; exact cell_of_row _ _ 0 _ _ _ hr5
  rintro e wf ⟨rfl, h1, ho1⟩
  have HN8 : Hid (NS (fun w' => Caps w' (w3.heap.size + 1) w.heap.size w3.heap.size g) w wf g ta tc ts B (Gr.want1 ts Y.2 [123]) w.heap.size w3.heap.size 3 N.1 0 Y.1 [] [] PL.1 bsf [] [] []) := Lib.hid (hn5.call h1 ho1)
  clear hb5 hr5 hng hn5 h1 ho1 HN7
  have HO6 : Hid (Gr.Ok ts (Gr.want1 ts Y.2 [123])) := Lib.hid (HO5.out.want1 _)
  have HLOW : Hid (w.heap.size ≤ wf.heap.size ∧ g < w.heap.size ∧ w.heap.size ≤ w.heap.size ∧ (∀ q, ta = some ⟨q, 0, none⟩ → q < w.heap.size) ∧ ∀ b ∈ w3.heap.size :: bsf, b < wf.heap.size) := Lib.hid ⟨HN8.out.only.size, HN8.out.low.2.1, Nat.le_refl _, HN8.out.hta, fun b hb => (HN8.out.op.new b hb).2⟩
  obtain ⟨S3, hS3⟩ : ∃ S3, S3 = Gr.want1 ts Y.2 [123] := ⟨_, rfl⟩
  rw [← hS3] at HN8 HO6 HR
  have hn9 : NS (Outer (fun w' => Caps w' (w3.heap.size + 1) w.heap.size w3.heap.size g) g wf.heap.size w.heap.size w3.heap.size 3 N.1 0 Y.1 [] [] PL.1 bsf) w (wf.alloc (.cells #[.int .u8 5, .string ⟨#[]⟩, .int .i64 0, .int .u8 0, .int .u64 0, .slice none 0 0, .string ⟨#[]⟩, .string ⟨#[]⟩, .slice none 0 0, .int .u64 0] 75)) g ta tc ts B S3 wf.heap.size wf.heap.size 5 [] 0 0 [] [] [] [] [] [] [] := HN8.out.nest 5 [] 0 0 [] []
  clear hS3 HN8 c1 c2
  go_upto_block 0 with fail
  generalize wf.alloc (.cells #[.int .u8 5, .string ⟨#[]⟩, .int .i64 0, .int .u8 0, .int .u64 0, .slice none 0 0, .string ⟨#[]⟩, .string ⟨#[]⟩, .slice none 0 0, .int .u64 0] 75) = wb at *
  have HN9 := Lib.hid hn9
  obtain ⟨BD, hBD⟩ : ∃ BD, BD = Gr.till ts Gr.wReturn false (Gr.stmt ts m m) m S3 := ⟨_, rfl⟩
  have HO7 : Hid (Gr.Ok ts (Gr.till ts Gr.wReturn false (Gr.stmt ts m m) m S3).2) := Lib.hid ((Gr.till_keeps _ _ (Gr.stmt_keeps m m) m).ok _ HO6.out)
  rw [← hBD] at HR HO7
  have HBD := Lib.hid hBD
  have HBL : Hid (BD.1.length ≤ m) := Lib.hid (by rw [hBD]; exact till_len _ _ _ _ _)
  clear hn9 hBD
  go_cut [] from 31 to 52 (fun w' => ∃ bs, Hid (NS (Outer (fun w' => Caps w' (w3.heap.size + 1) w.heap.size w3.heap.size g) g wf.heap.size w.heap.size w3.heap.size 3 N.1 0 Y.1 [] [] PL.1 bsf) w w' g ta tc ts B BD.2 wf.heap.size wf.heap.size 5 [] 0 0 [] [] BD.1 bs [] [] []))
  case first =>
    clear HEX HR HO7
    go_wp2_with fail
    go_loopw [] (fun wr => ∃ (q : Nat) (s2 : PS) (l : List Tr) (bs : List Nat), Hid (muOf ts s2 ≤ q) ∧ Hid (q ≤ m ∧ q + l.length ≤ m) ∧ Hid ((l ++ (Gr.till ts Gr.wReturn false (Gr.stmt ts m m) q s2).1, (Gr.till ts Gr.wReturn false (Gr.stmt ts m m) q s2).2) = BD) ∧ Hid (Gr.Ok ts s2) ∧ Hid (NS (Outer (fun w' => Caps w' (w3.heap.size + 1) w.heap.size w3.heap.size g) g wf.heap.size w.heap.size w3.heap.size 3 N.1 0 Y.1 [] [] PL.1 bsf) w wr g ta tc ts B s2 wf.heap.size wf.heap.size 5 [] 0 0 [] [] l bs [] [] [])) (fun wr => muCell g ts.length wr)
    case atStart => exact ⟨m, _, [], [], Lib.hid (mu_top HM.out.1 _), Lib.hid ⟨Nat.le_refl _, Nat.le_refl _⟩, Lib.hid (by rw [HBD.out]; rfl), HO6, HN9⟩
    case round =>
      clear HN9 HO6 HBD
      obtain ⟨q, s2, l, bs, hq, hqn, hrd, hok2, hns⟩ := hrel
      rename World => wr
      have hcap := hns.out.holds.2 _ (Only.refl _ _)
      have c1 := hcap.1
      have c2 := hcap.2
      clear hcap
      have c3 := cell_of_row wr g 3 _ _ _ hns.out.pat.row
      replace c3 : wr.cell? ⟨g, 3, none⟩ = some (.bool s2.bad) := c3
      obtain ⟨b, hb⟩ : ∃ b, b = s2.bad := ⟨_, rfl⟩
      rw [← hb] at c3
      have HBB := Lib.hid hb.symm
      clear hb
      cases b with
      | true =>
        have HR2 : Hid (BD = (l, s2)) := Lib.hid (by rw [← hrd.out, till_bad _ _ HBB.out, List.append_nil])
        have HPA := hns
        clear hq hqn hrd hok2 hns
        go_wp2_with fail
        go_meet
        exact ⟨bs, Lib.hid (by rw [HR2.out]; exact HPA.out)⟩
      | false =>
        have hpl := hok2.out.here HBB.out
        have hmu1 : 1 ≤ muOf ts s2 := by unfold muOf; rw [HBB.out]; simp only [Bool.false_eq_true, if_false]; omega
        obtain ⟨q', hq'⟩ : ∃ x, q = x + 1 := ⟨q - 1, by have := hq.out; omega⟩
        subst hq'
        obtain ⟨n', hn'⟩ : ∃ x, m = x + 1 := ⟨m - 1, by have := hqn.out; omega⟩
        have HMD : Hid (muOf ts (Gr.stmt ts m m s2).2 < muOf ts s2) := Lib.hid (by
          have h1 : (Gr.stmt ts m m s2).2.bad = true ∨ s2.pos + 1 ≤ (Gr.stmt ts m m s2).2.pos := by
            have h2 := stmt_adv (ts := ts) (m := m) (n := n') (s := s2)
            rw [← hn'] at h2
            exact h2
          exact mu_next HBB.out hpl h1)
        clear hn' hmu1
        go_wp2_with fail
        refine (is_tok g ta tc ts s2 Gr.wReturn wr hns.out.pat (by omega)).mono ?_
        rintro e w2 ⟨rfl, hb2⟩
        obtain ⟨b, hb⟩ : ∃ b, b = Gr.isT ts s2 Gr.wReturn := ⟨_, rfl⟩
        rw [← hb]
        have HBV : Hid (Gr.isT ts s2 Gr.wReturn = b) := Lib.hid hb.symm
        have hn2 := hns.out.below hb2
        clear hb hb2 c1 c2 c3
        cases b with
        | true =>
          have HR2 : Hid (BD = (l, s2)) := Lib.hid (by rw [← hrd.out, till_end HBB.out HBV.out, List.append_nil]; rfl)
          have HPA := Lib.hid hn2
          clear hq hqn hrd hok2 hns hn2
          go_wp2_with fail
          go_meet
          exact ⟨bs, Lib.hid (by rw [HR2.out]; exact HPA.out)⟩
        | false =>
          have HRD : Hid ((l ++ [(Gr.stmt ts m m s2).1] ++ (Gr.till ts Gr.wReturn false (Gr.stmt ts m m) q' (Gr.stmt ts m m s2).2).1, (Gr.till ts Gr.wReturn false (Gr.stmt ts m m) q' (Gr.stmt ts m m s2).2).2) = BD) := Lib.hid (by rw [← hrd.out, till_more HBB.out HBV.out, List.append_assoc]; rfl)
          have HMC : Hid (muOf ts (Gr.stmt ts m m s2).2 < muCell g ts.length wr) := Lib.hid (by rw [hns.out.pat.mu]; exact HMD.out)
          have HOK2 : Hid (Gr.Ok ts (Gr.stmt ts m m s2).2) := Lib.hid ((Gr.stmt_keeps m m).ok _ hok2.out)
          have HMUL : Hid (muOf ts s2 ≤ m) := Lib.hid (by have := hq.out; have := hqn.out; omega)
          have hn0 := hn2.below (bdr (bre w2))
          obtain ⟨W, hW⟩ : ∃ W, W = w2 := ⟨_, rfl⟩
          rw [← hW] at hn0 ⊢
          clear hW
          obtain ⟨kv, ps0, hrow0, -, -⟩ := hn0.box
          have hlow := hn0.low
          have hgtl := hn0.new wf.heap.size (List.mem_cons_self ..)
          have HROW : Hid (∀ w', Only W.drew w' (fun k => k = g) → w'.heap[wf.heap.size]? = some (.cells (boxRow 5 [] 0 0 0 (.slice none 0 0) [] [] kv 0) 75 (0, 0))) := Lib.hid (fun w' ho => (ho.block wf.heap.size hgtl.2 (fun e => by omega)).trans hrow0)
          have HSS : Hid (∀ w', Only W.drew w' (fun k => k = g) → (Outer (fun w' => Caps w' (w3.heap.size + 1) w.heap.size w3.heap.size g) g wf.heap.size w.heap.size w3.heap.size 3 N.1 0 Y.1 [] [] PL.1 bsf) w' → (Outer (fun w' => Caps w' (w3.heap.size + 1) w.heap.size w3.heap.size g) g wf.heap.size w.heap.size w3.heap.size 3 N.1 0 Y.1 [] [] PL.1 bsf) w' ∧ w'.cell? ⟨wf.heap.size, 8, none⟩ = some kv) := Lib.hid (fun w' ho hi => ⟨hi, cell_of_row w' wf.heap.size 8 _ _ _ (HROW.out w' ho)⟩)
          have HN0 := Lib.hid hn0
          clear hn0 hrow0 hlow hgtl
          have hlen : l.length < 3000000 := by have := hqn.out; have := HM.out.2; omega
          clear hns hn2 hrd
          go_upto_region 9 with fail
          refine region_anyZ (z := 9) (S := fun w' => (Outer (fun w' => Caps w' (w3.heap.size + 1) w.heap.size w3.heap.size g) g wf.heap.size w.heap.size w3.heap.size 3 N.1 0 Y.1 [] [] PL.1 bsf) w' ∧ w'.cell? ⟨wf.heap.size, 8, none⟩ = some kv) (by kernel_rfl) ?_
          refine anyZ_begin (fun hcl0 => ?_)
          refine anyZ_held (by exact HSS.out _ (Only.refl _ _) HN0.out.holds) (fun hHeld => ?_)
          -- 0: Op.move (Operand.tmp 4)
          refine' anyZ_pure (i := 0) (v := _) rfl (by rfl) (by kernel_rfl) (by kernel_rfl) (by kernel_rfl) hcl0 (fun _ _ _ h => h) (Or.inl ⟨by rfl, fun w _ => ?hy1⟩) (fun _ => hHeld) (fun hcl1 => ?ry1)
          case hy1 => (simp only [List.getElem_toArray, List.getElem_cons_zero]; first | (go_simp; with_reducible rfl) | (go_simp; done) | rfl)
          simp only [List.getElem_toArray, List.getElem_cons_zero, Act.put, List.setIfInBounds_toArray, List.set_cons_zero, List.set_cons_succ]
          -- 1: Op.move (Operand.tmp 4)
          refine' anyZ_pure (i := 1) (v := _) rfl (by rfl) (by kernel_rfl) (by kernel_rfl) (by kernel_rfl) hcl1 (fun _ _ _ h => h) (Or.inl ⟨by rfl, fun w _ => ?hy2⟩) (fun _ => hHeld) (fun hcl2 => ?ry2)
          case hy2 => (simp only [List.getElem_toArray, List.getElem_cons_succ, List.getElem_cons_zero]; first | (go_simp; with_reducible rfl) | (go_simp; done) | rfl)
          simp only [List.getElem_toArray, List.getElem_cons_succ, List.getElem_cons_zero, Act.put, List.setIfInBounds_toArray, List.set_cons_zero, List.set_cons_succ]
          -- 2: Op.nilCheck (Operand.tmp 42)
          refine' anyZ_pure (i := 2) (v := _) rfl (by rfl) (by kernel_rfl) (by kernel_rfl) (by kernel_rfl) hcl2 (fun _ _ _ h => h) (Or.inl ⟨by rfl, fun w _ => ?hy3⟩) (fun _ => hHeld) (fun hcl3 => ?ry3)
          case hy3 => (simp only [List.getElem_toArray, List.getElem_cons_succ, List.getElem_cons_zero]; first | (go_simp; with_reducible rfl) | (go_simp; done) | rfl)
          simp only [List.getElem_toArray, List.getElem_cons_succ, List.getElem_cons_zero, Act.put, List.setIfInBounds_toArray, List.set_cons_zero, List.set_cons_succ]
          -- 3: Op.fieldAddr 74 (Operand.tmp 43) 3
          refine' anyZ_pure (i := 3) (v := _) rfl (by rfl) (by kernel_rfl) (by kernel_rfl) (by kernel_rfl) hcl3 (fun _ _ _ h => h) (Or.inl ⟨by rfl, fun w _ => ?hy4⟩) (fun _ => hHeld) (fun hcl4 => ?ry4)
          case hy4 => (simp only [List.getElem_toArray, List.getElem_cons_succ, List.getElem_cons_zero]; first | (go_simp; with_reducible rfl) | (go_simp; done) | rfl)
          simp only [List.getElem_toArray, List.getElem_cons_succ, List.getElem_cons_zero, Act.put, List.setIfInBounds_toArray, List.set_cons_zero, List.set_cons_succ]
          -- 4: Op.load 54 (Operand.tmp 44)
          refine' anyZ_take (i := 4) (v := _) rfl (by rfl) (by kernel_rfl) (by kernel_rfl) (by kernel_rfl) hcl4 8 (by kernel_rfl) (by kernel_rfl) (fun _ _ _ h => h) (Or.inl ⟨by rfl, fun w hSw => ?hy5⟩) hHeld (fun hcl5 => ?ry5)
          case hy5 => (simp only [List.getElem_toArray, List.getElem_cons_succ, List.getElem_cons_zero]; obtain ⟨hSi, hS8⟩ := hSw; have hSj := hSi.2 _ (Only.refl _ _); obtain ⟨hS1, hS2⟩ := hSj; first | (go_simp; with_reducible rfl) | (go_simp; done) | rfl)
          simp only [List.getElem_toArray, List.getElem_cons_succ, List.getElem_cons_zero, Act.put, List.setIfInBounds_toArray, List.set_cons_zero, List.set_cons_succ]
          -- 5: Op.load 45 (Operand.tmp 1)
          refine' anyZ_take (i := 5) (v := _) rfl (by rfl) (by kernel_rfl) (by kernel_rfl) (by kernel_rfl) hcl5 8 (by kernel_rfl) (by kernel_rfl) (fun _ _ _ h => h) (Or.inl ⟨by rfl, fun w hSw => ?hy6⟩) hHeld (fun hcl6 => ?ry6)
          case hy6 => (simp only [List.getElem_toArray, List.getElem_cons_succ, List.getElem_cons_zero]; obtain ⟨hSi, hS8⟩ := hSw; have hSj := hSi.2 _ (Only.refl _ _); obtain ⟨hS1, hS2⟩ := hSj; first | (go_simp; with_reducible rfl) | (go_simp; done) | rfl)
          simp only [List.getElem_toArray, List.getElem_cons_succ, List.getElem_cons_zero, Act.put, List.setIfInBounds_toArray, List.set_cons_zero, List.set_cons_succ]
          -- 6: Op.call { callee := Callee.value (Operand.func 48), args := 
          refine anyZ_one (i := 6) hcl6 (by kernel_rfl) (by simp only [List.getElem?_toArray, List.getElem?_cons_succ, List.getElem?_cons_zero]; rfl) (by rfl) (fun hcl7 K hK => ?_)
          go_simp
          refine (HST.out s2 _ HMUL.out HBB.out hok2.out HN0.out.asks).mono ?_
          rintro e w2 ⟨v, b2, rfl, hd2, hp2, ho2⟩
          obtain ⟨gv, rfl⟩ := hd2.ptr
          have HN2 := Lib.hid (HN0.out.got hp2 ho2 hd2)
          have HO2 := Lib.hid ho2
          clear hd2 hp2 ho2
          refine hK _ _ (fun _ => ?_) ?_
          · exact HSS.out _ HO2.out HN2.out.holds
          clear hK K hHeld
          try simp only [Act.put, List.setIfInBounds_toArray, List.set_cons_zero, List.set_cons_succ]
          -- 7: Op.buildSlice 54 1 #[(0, Operand.tmp 47)]
          refine anyZ_one (i := 7) hcl7 (by kernel_rfl) (by simp only [List.getElem?_toArray, List.getElem?_cons_succ, List.getElem?_cons_zero]; rfl) (by rfl) (fun hcl8 K hK => ?_)
          go_simp
          refine hK _ _ (fun _ => ?_) ?_
          · exact HSS.out _ (HO2.out.trans (Only.of_below (bal (bre w2) _) _) fun _ _ h => h) (HN2.out.below (bal (bre w2) _)).holds
          clear hK K
          try simp only [Act.put, List.setIfInBounds_toArray, List.set_cons_zero, List.set_cons_succ]
          -- 8: Op.call { callee := Callee.builtin Builtin.append, args := #
          refine anyZ_one (i := 8) hcl8 (by kernel_rfl) (by simp only [List.getElem?_toArray, List.getElem?_cons_succ, List.getElem?_cons_zero]; rfl) (by rfl) (fun hcl9 K hK => ?_)
          have hb3 := bal (bre w2) (.cells #[.pointer (some ⟨gv, 0, none⟩)] 47)
          have hrow3 := HROW.out _ (HO2.out.trans (Only.of_below hb3 _) fun _ _ h => h)
          obtain ⟨ps, hown, hlen, hngt, hinv, happ⟩ := (HN2.out.below hb3).app hrow3
          have hDsz := (HN2.out.below hb3).new wf.heap.size (List.mem_cons_self ..)
          have hnews : ∀ j u, [Value.pointer (some ⟨gv, 0, none⟩)][j]? = some u → (w2.alloc (.cells #[.pointer (some ⟨gv, 0, none⟩)] 47)).cell? ((⟨w2.heap.size, 0, none⟩ : Addr).add j) = some u := fun j u hu => by
            match j, hu with
            | 0, hu => cases hu; exact cell_of_row _ _ 0 _ _ _ (heap_alloc_new w2 _)
          generalize w2.alloc (.cells #[.pointer (some ⟨gv, 0, none⟩)] 47) = W3 at *
          refine wp_app' _ _ 53 47 1 8 rowPtr rfl _ _ ps.length ps rfl hown ⟨w2.heap.size, 0, none⟩ 1 1 [.pointer (some ⟨gv, 0, none⟩)] rfl rfl hnews (by simp [Value.oneCell']) (by unfold maxLen; omega) (by omega) (Nat.le_of_lt (Nat.lt_of_le_of_lt hDsz.1 hDsz.2)) ?_
          intro v8 w8 k8 hg8 hs8
          have HN8 := Lib.hid (happ w8 v8 hg8 hs8 (by unfold OwnPtrs; rw [List.length_append, List.length_singleton]; exact k8))
          obtain ⟨a8, c8, rfl, -⟩ := ownsRow_lies k8
          have hr8 := ((Only.of_grown hg8).block wf.heap.size hDsz.2 hngt).trans hrow3
          have HI8 := Lib.hid (hinv w8 hg8)
          have HR8 := Lib.hid hr8
          clear hb3 hrow3 hown hlen hngt hinv happ hDsz hnews hg8 hs8 k8 hr8
          refine hK _ _ (fun _ => ?_) ?_
          · exact ⟨HI8.out, cell_of_row w8 wf.heap.size 8 _ _ _ HR8.out⟩
          clear hK K
          try simp only [Act.put, List.setIfInBounds_toArray, List.set_cons_zero, List.set_cons_succ]
          refine anyZ_chain_at (by kernel_rfl) ?_
          simp only [List.drop_succ_cons, List.drop_zero]
          have hf8 := fun i => frozen_of_row w8 wf.heap.size i _ _ HR8.out
          have hk8 := cell_of_row w8 wf.heap.size 8 _ _ _ HR8.out
          obtain ⟨bs', hn8⟩ := HN8.out
          have HNZ := Lib.hid hn8
          clear HR8 HI8 HN8 hn8 HN2 HN0
          go_wp2_with fail
          go_roundw
          case rel => exact ⟨q', _, _, bs', Lib.hid (by have := HMD.out; have := hq.out; omega), Lib.hid (by have := hqn.out; rw [List.length_append, List.length_singleton]; omega), HRD, HOK2, HNZ⟩
          case measure => (rw [HNZ.out.pat.mu]; exact HMC.out)
  case rest =>
    obtain ⟨bsb, HN9b⟩ := hcut
    clear HN9 HO6 HBD HST
    have hcap := HN9b.out.holds.2 _ (Only.refl _ _)
    have c1 := hcap.1
    have c2 := hcap.2
    clear hcap
    go_wp2_with fail
    have hb5 := bal (bre wc) (.cells #[.string (mk8 Gr.wReturn)] 9)
    have hr5 := heap_alloc_new wc (.cells #[.string (mk8 Gr.wReturn)] 9)
    have hng : wc.heap.size ≠ g := fun e => by have := (Array.getElem?_eq_some_iff.1 HN9b.out.pat.row).1; omega
    have hn5 := HN9b.out.below hb5
    refine (want_tok g ta tc ts BD.2 [Gr.wReturn] wc.heap.size 1 1 _ hn5.pat rfl (by have := HO7.out.pos; omega) (fun j x hx => ?_) hng).mono ?_
    · match j, hx with
      | 0, hx => cases hx; exact cell_of_row _ _ 0 _ _ _ hr5
    rintro e w10 ⟨rfl, h1, ho1⟩
    have HN10 : Hid (NS (Outer (fun w' => Caps w' (w3.heap.size + 1) w.heap.size w3.heap.size g) g wf.heap.size w.heap.size w3.heap.size 3 N.1 0 Y.1 [] [] PL.1 bsf) w w10 g ta tc ts B (Gr.want1 ts BD.2 Gr.wReturn) wf.heap.size wf.heap.size 5 [] 0 0 [] [] BD.1 bsb [] [] []) := Lib.hid (hn5.call h1 ho1)
    clear hb5 hr5 hng hn5 h1 ho1 HN9b
    have HO8 : Hid (Gr.Ok ts (Gr.want1 ts BD.2 Gr.wReturn)) := Lib.hid (HO7.out.want1 _)
    obtain ⟨S4, hS4⟩ : ∃ S4, S4 = Gr.want1 ts BD.2 Gr.wReturn := ⟨_, rfl⟩
    rw [← hS4] at HN10 HO8 HR
    have hn0 := HN10.out.below (bdr (bre w10))
    clear hS4 c1 c2 HN10
    obtain ⟨kv, ps0, hrow0, -, -⟩ := hn0.box
    have hlow := hn0.low
    have hgtl := hn0.new wf.heap.size (List.mem_cons_self ..)
    have HROW : Hid (∀ w', Only w10.drew w' (fun k => k = g) → w'.heap[wf.heap.size]? = some (.cells (boxRow 5 [] 0 0 0 (.slice none 0 0) [] [] kv 0) 75 (0, 0))) := Lib.hid (fun w' ho => (ho.block wf.heap.size hgtl.2 (fun e => by omega)).trans hrow0)
    have HSS : Hid (∀ w', Only w10.drew w' (fun k => k = g) → (Outer (fun w' => Caps w' (w3.heap.size + 1) w.heap.size w3.heap.size g) g wf.heap.size w.heap.size w3.heap.size 3 N.1 0 Y.1 [] [] PL.1 bsf) w' → (Outer (fun w' => Caps w' (w3.heap.size + 1) w.heap.size w3.heap.size g) g wf.heap.size w.heap.size w3.heap.size 3 N.1 0 Y.1 [] [] PL.1 bsf) w' ∧ w'.cell? ⟨wf.heap.size, 8, none⟩ = some kv) := Lib.hid (fun w' ho hi => ⟨hi, cell_of_row w' wf.heap.size 8 _ _ _ (HROW.out w' ho)⟩)
    have HN0 := Lib.hid hn0
    clear hn0 hrow0 hlow hgtl
    have hlen : BD.1.length < 3000000 := by have h1 := HBL.out; have h2 := HM.out.2; omega
    go_upto_region 11 with fail
    refine region_anyZ (z := 13) (S := fun w' => (Outer (fun w' => Caps w' (w3.heap.size + 1) w.heap.size w3.heap.size g) g wf.heap.size w.heap.size w3.heap.size 3 N.1 0 Y.1 [] [] PL.1 bsf) w' ∧ w'.cell? ⟨wf.heap.size, 8, none⟩ = some kv) (by kernel_rfl) ?_
    refine anyZ_begin (fun hcl0 => ?_)
    refine anyZ_held (by exact HSS.out _ (Only.refl _ _) HN0.out.holds) (fun hHeld => ?_)
    -- 0: Op.move (Operand.tmp 4)
    refine' anyZ_pure (i := 0) (v := _) rfl (by rfl) (by kernel_rfl) (by kernel_rfl) (by kernel_rfl) hcl0 (fun _ _ _ h => h) (Or.inl ⟨by rfl, fun w _ => ?hx1⟩) (fun _ => hHeld) (fun hcl1 => ?rx1)
    case hx1 => (simp only [List.getElem_toArray, List.getElem_cons_zero]; first | (go_simp; with_reducible rfl) | (go_simp; done) | rfl)
    simp only [List.getElem_toArray, List.getElem_cons_zero, Act.put, List.setIfInBounds_toArray, List.set_cons_zero, List.set_cons_succ]
    -- 1: Op.move (Operand.tmp 4)
    refine' anyZ_pure (i := 1) (v := _) rfl (by rfl) (by kernel_rfl) (by kernel_rfl) (by kernel_rfl) hcl1 (fun _ _ _ h => h) (Or.inl ⟨by rfl, fun w _ => ?hx2⟩) (fun _ => hHeld) (fun hcl2 => ?rx2)
    case hx2 => (simp only [List.getElem_toArray, List.getElem_cons_succ, List.getElem_cons_zero]; first | (go_simp; with_reducible rfl) | (go_simp; done) | rfl)
    simp only [List.getElem_toArray, List.getElem_cons_succ, List.getElem_cons_zero, Act.put, List.setIfInBounds_toArray, List.set_cons_zero, List.set_cons_succ]
    -- 2: Op.nilCheck (Operand.tmp 56)
    refine' anyZ_pure (i := 2) (v := _) rfl (by rfl) (by kernel_rfl) (by kernel_rfl) (by kernel_rfl) hcl2 (fun _ _ _ h => h) (Or.inl ⟨by rfl, fun w _ => ?hx3⟩) (fun _ => hHeld) (fun hcl3 => ?rx3)
    case hx3 => (simp only [List.getElem_toArray, List.getElem_cons_succ, List.getElem_cons_zero]; first | (go_simp; with_reducible rfl) | (go_simp; done) | rfl)
    simp only [List.getElem_toArray, List.getElem_cons_succ, List.getElem_cons_zero, Act.put, List.setIfInBounds_toArray, List.set_cons_zero, List.set_cons_succ]
    -- 3: Op.fieldAddr 74 (Operand.tmp 57) 3
    refine' anyZ_pure (i := 3) (v := _) rfl (by rfl) (by kernel_rfl) (by kernel_rfl) (by kernel_rfl) hcl3 (fun _ _ _ h => h) (Or.inl ⟨by rfl, fun w _ => ?hx4⟩) (fun _ => hHeld) (fun hcl4 => ?rx4)
    case hx4 => (simp only [List.getElem_toArray, List.getElem_cons_succ, List.getElem_cons_zero]; first | (go_simp; with_reducible rfl) | (go_simp; done) | rfl)
    simp only [List.getElem_toArray, List.getElem_cons_succ, List.getElem_cons_zero, Act.put, List.setIfInBounds_toArray, List.set_cons_zero, List.set_cons_succ]
    -- 4: Op.load 54 (Operand.tmp 58)
    refine' anyZ_take (i := 4) (v := _) rfl (by rfl) (by kernel_rfl) (by kernel_rfl) (by kernel_rfl) hcl4 9 (by kernel_rfl) (by kernel_rfl) (fun _ _ _ h => h) (Or.inl ⟨by rfl, fun w hSw => ?hx5⟩) hHeld (fun hcl5 => ?rx5)
    case hx5 => (simp only [List.getElem_toArray, List.getElem_cons_succ, List.getElem_cons_zero]; obtain ⟨hSi, hS8⟩ := hSw; have hSj := hSi.2 _ (Only.refl _ _); obtain ⟨hS1, hS2⟩ := hSj; first | (go_simp; with_reducible rfl) | (go_simp; done) | rfl)
    simp only [List.getElem_toArray, List.getElem_cons_succ, List.getElem_cons_zero, Act.put, List.setIfInBounds_toArray, List.set_cons_zero, List.set_cons_succ]
    -- 5: Op.build 38 #[(0, Operand.const (Value.int IntKind.u8 10))]
    refine' anyZ_pure (i := 5) (v := _) rfl (by rfl) (by kernel_rfl) (by kernel_rfl) (by kernel_rfl) hcl5 (fun _ _ _ h => h) (Or.inl ⟨by rfl, fun w _ => ?hx6⟩) (fun _ => hHeld) (fun hcl6 => ?rx6)
    case hx6 => (simp only [List.getElem_toArray, List.getElem_cons_succ, List.getElem_cons_zero]; first | (go_simp; with_reducible rfl) | (go_simp; done) | rfl)
    simp only [List.getElem_toArray, List.getElem_cons_succ, List.getElem_cons_zero, Act.put, List.setIfInBounds_toArray, List.set_cons_zero, List.set_cons_succ]
    -- 6: Op.load 45 (Operand.tmp 1)
    refine' anyZ_take (i := 6) (v := _) rfl (by rfl) (by kernel_rfl) (by kernel_rfl) (by kernel_rfl) hcl6 9 (by kernel_rfl) (by kernel_rfl) (fun _ _ _ h => h) (Or.inl ⟨by rfl, fun w hSw => ?hx7⟩) hHeld (fun hcl7 => ?rx7)
    case hx7 => (simp only [List.getElem_toArray, List.getElem_cons_succ, List.getElem_cons_zero]; obtain ⟨hSi, hS8⟩ := hSw; have hSj := hSi.2 _ (Only.refl _ _); obtain ⟨hS1, hS2⟩ := hSj; first | (go_simp; with_reducible rfl) | (go_simp; done) | rfl)
    simp only [List.getElem_toArray, List.getElem_cons_succ, List.getElem_cons_zero, Act.put, List.setIfInBounds_toArray, List.set_cons_zero, List.set_cons_succ]
    -- 7: Op.call { callee := Callee.value (Operand.func 49), args := 
    refine anyZ_one (i := 7) hcl7 (by kernel_rfl) (by simp only [List.getElem?_toArray, List.getElem?_cons_succ, List.getElem?_cons_zero]; rfl) (by rfl) (fun hcl8 K hK => ?_)
    go_simp
    refine (HEX.out S4 _ (mu_top HM.out.1 _) HO8.out.wide HN0.out.asks).mono ?_
    rintro e w2 ⟨v, b2, rfl, hd2, hp2, ho2⟩
    obtain ⟨gv, rfl⟩ := hd2.ptr
    obtain ⟨E, hE⟩ : ∃ E, E = Gr.expr ts m S4 := ⟨_, rfl⟩
    rw [← hE] at hd2 hp2
    have HEM := Lib.hid hE
    have HOE : Hid (Gr.Ok ts E.2) := Lib.hid (by rw [hE]; exact (Gr.expr_keeps m).ok _ HO8.out)
    have HN2 := Lib.hid (HN0.out.got hp2 ho2 hd2)
    have HO2 := Lib.hid ho2
    clear hd2 hp2 ho2 hE
    refine hK _ _ (fun _ => ?_) ?_
    · exact HSS.out _ HO2.out HN2.out.holds
    clear hK K hHeld
    have hHeld := HSS.out _ HO2.out HN2.out.holds
    try simp only [Act.put, List.setIfInBounds_toArray, List.set_cons_zero, List.set_cons_succ]
    -- 8: Op.buildSlice 54 1 #[(0, Operand.tmp 62)]
    refine anyZ_one (i := 8) hcl8 (by kernel_rfl) (by simp only [List.getElem?_toArray, List.getElem?_cons_succ, List.getElem?_cons_zero]; rfl) (by rfl) (fun hcl9 K hK => ?_)
    have HB8 := Lib.hid (bal (bre w2) (.cells #[.pointer (some ⟨gv, 0, none⟩)] 47))
    have HO3a := Lib.hid (HO2.out.trans (Only.of_below HB8.out _) fun _ _ h => h)
    have HN2b := Lib.hid (HN2.out.below HB8.out)
    go_simp
    refine hK _ _ (fun _ => ?_) ?_
    · exact HSS.out _ HO3a.out HN2b.out.holds
    clear hK K hHeld
    have hHeld := HSS.out _ HO3a.out HN2b.out.holds
    try simp only [Act.put, List.setIfInBounds_toArray, List.set_cons_zero, List.set_cons_succ]
    -- 9: Op.build 74 #[(0, Operand.tmp 60), (3, Operand.tmp 63)]
    refine' anyZ_pure (i := 9) (v := _) rfl (by rfl) (by kernel_rfl) (by kernel_rfl) (by kernel_rfl) hcl9 (fun _ _ _ h => h) (Or.inl ⟨by rfl, fun w _ => ?hx10⟩) (fun _ => hHeld) (fun hcl10 => ?rx10)
    case hx10 => (simp only [List.getElem_toArray, List.getElem_cons_succ, List.getElem_cons_zero]; first | (go_simp; with_reducible rfl) | (go_simp; done) | rfl)
    simp only [List.getElem_toArray, List.getElem_cons_succ, List.getElem_cons_zero, Act.put, List.setIfInBounds_toArray, List.set_cons_zero, List.set_cons_succ]
    -- 10: Op.box 74 (Operand.tmp 64)
    refine anyZ_one (i := 10) hcl10 (by kernel_rfl) (by simp only [List.getElem?_toArray, List.getElem?_cons_succ, List.getElem?_cons_zero]; rfl) (by rfl) (fun hcl11 K hK => ?_)
    have HN3 : Hid (NS (Outer (fun w' => Caps w' (w3.heap.size + 1) w.heap.size w3.heap.size g) g wf.heap.size w.heap.size w3.heap.size 3 N.1 0 Y.1 [] [] PL.1 bsf) w ((w2.alloc (.cells #[.pointer (some ⟨gv, 0, none⟩)] 47)).alloc (.cells #[.int .u8 10, .string ⟨#[]⟩, .int .i64 0, .int .u8 0, .int .u64 0, .slice none 0 0, .string ⟨#[]⟩, .string ⟨#[]⟩, .slice (some ⟨w2.heap.size, 0, none⟩) 1 1, .int .u64 0] 75)) g ta tc ts B E.2 wf.heap.size wf.heap.size 5 [] 0 0 [] [] BD.1 bsb [.pointer (some ⟨w2.heap.size + 1, 0, none⟩)] [.mk 10 [] 0 0 [] [] [E.1]] ((w2.heap.size + 1) :: w2.heap.size :: ([] ++ b2))) := Lib.hid (NS.boxed HN2.out 10)
    have HO3 := Lib.hid (HO3a.out.trans (Only.of_below (bal (bre (w2.alloc (.cells #[.pointer (some ⟨gv, 0, none⟩)] 47))) (.cells #[.int .u8 10, .string ⟨#[]⟩, .int .i64 0, .int .u8 0, .int .u64 0, .slice none 0 0, .string ⟨#[]⟩, .string ⟨#[]⟩, .slice (some ⟨w2.heap.size, 0, none⟩) 1 1, .int .u64 0] 75)) _) fun _ _ h => h)
    go_simp
    refine hK _ _ (fun _ => ?_) ?_
    · exact HSS.out _ HO3.out HN3.out.holds
    clear hK K hHeld
    have hHeld := HSS.out _ HO3.out HN3.out.holds
    try simp only [Act.put, List.setIfInBounds_toArray, List.set_cons_zero, List.set_cons_succ]
    -- 11: Op.buildSlice 54 1 #[(0, Operand.tmp 65)]
    refine anyZ_one (i := 11) hcl11 (by kernel_rfl) (by simp only [List.getElem?_toArray, List.getElem?_cons_succ, List.getElem?_cons_zero]; rfl) (by rfl) (fun hcl12 K hK => ?_)
    obtain ⟨gr, hgr⟩ : ∃ q, q = w2.heap.size + 1 := ⟨_, rfl⟩
    rw [← hgr] at HN3 ⊢
    generalize ((w2.alloc (.cells #[.pointer (some ⟨gv, 0, none⟩)] 47)).alloc (.cells #[.int .u8 10, .string ⟨#[]⟩, .int .i64 0, .int .u8 0, .int .u64 0, .slice none 0 0, .string ⟨#[]⟩, .string ⟨#[]⟩, .slice (some ⟨w2.heap.size, 0, none⟩) 1 1, .int .u64 0] 75)) = W4 at *
    clear hgr HB8 HO3a HN2b HN2 HO2
    go_simp
    refine hK _ _ (fun _ => ?_) ?_
    · exact HSS.out _ (HO3.out.trans (Only.of_below (bal (bre W4) (.cells #[.pointer (some ⟨gr, 0, none⟩)] 47)) _) fun _ _ h => h) (HN3.out.below (bal (bre W4) (.cells #[.pointer (some ⟨gr, 0, none⟩)] 47))).holds
    clear hK K hHeld
    try simp only [Act.put, List.setIfInBounds_toArray, List.set_cons_zero, List.set_cons_succ]
    -- 12: Op.call { callee := Callee.builtin Builtin.append, args := #
    refine anyZ_one (i := 12) hcl12 (by kernel_rfl) (by simp only [List.getElem?_toArray, List.getElem?_cons_succ, List.getElem?_cons_zero]; rfl) (by rfl) (fun hcl13 K hK => ?_)
    have hb3 := bal (bre W4) (.cells #[.pointer (some ⟨gr, 0, none⟩)] 47)
    have hrow3 := HROW.out _ (HO3.out.trans (Only.of_below hb3 _) fun _ _ h => h)
    obtain ⟨ps, hown, hlen, hngt, hinv, happ⟩ := (HN3.out.below hb3).app hrow3
    have hDsz := (HN3.out.below hb3).new wf.heap.size (List.mem_cons_self ..)
    have hnews : ∀ j u, [Value.pointer (some ⟨gr, 0, none⟩)][j]? = some u → (W4.alloc (.cells #[.pointer (some ⟨gr, 0, none⟩)] 47)).cell? ((⟨W4.heap.size, 0, none⟩ : Addr).add j) = some u := fun j u hu => by
      match j, hu with
      | 0, hu => cases hu; exact cell_of_row _ _ 0 _ _ _ (heap_alloc_new W4 _)
    generalize W4.alloc (.cells #[.pointer (some ⟨gr, 0, none⟩)] 47) = W3 at *
    refine wp_app' _ _ 53 47 1 8 rowPtr rfl _ _ ps.length ps rfl hown ⟨W4.heap.size, 0, none⟩ 1 1 [.pointer (some ⟨gr, 0, none⟩)] rfl rfl hnews (by simp [Value.oneCell']) (by unfold maxLen; omega) (by omega) (Nat.le_of_lt (Nat.lt_of_le_of_lt hDsz.1 hDsz.2)) ?_
    intro v8 w8 k8 hg8 hs8
    have HN8 := Lib.hid (happ w8 v8 hg8 hs8 (by unfold OwnPtrs; rw [List.length_append, List.length_singleton]; exact k8))
    obtain ⟨a8, c8, rfl, -⟩ := ownsRow_lies k8
    have hr8 := ((Only.of_grown hg8).block wf.heap.size hDsz.2 hngt).trans hrow3
    have HI8 := Lib.hid (hinv w8 hg8)
    have HR8 := Lib.hid hr8
    clear hb3 hrow3 hown hlen hngt hinv happ hDsz hnews hg8 hs8 k8 hr8
    refine hK _ _ (fun _ => ?_) ?_
    · exact ⟨HI8.out, cell_of_row w8 wf.heap.size 8 _ _ _ HR8.out⟩
    clear hK K
    try simp only [Act.put, List.setIfInBounds_toArray, List.set_cons_zero, List.set_cons_succ]
    refine anyZ_chain_at (by kernel_rfl) ?_
    simp only [List.drop_succ_cons, List.drop_zero]
    have hf8 := fun i => frozen_of_row w8 wf.heap.size i _ _ HR8.out
    have hk8 := cell_of_row w8 wf.heap.size 8 _ _ _ HR8.out
    obtain ⟨bs11, hn8⟩ := HN8.out
    clear HR8 HI8 HN8 HN3 HN0 HO3 HROW HSS HEX
    go_upto_region 12 with fail
    generalize w8.setCell ⟨wf.heap.size, 8, none⟩ (.slice a8 (ps.length + 1) c8) = w11 at *
    have HN11 : Hid (NS (Outer (fun w' => Caps w' (w3.heap.size + 1) w.heap.size w3.heap.size g) g wf.heap.size w.heap.size w3.heap.size 3 N.1 0 Y.1 [] [] PL.1 bsf) w w11 g ta tc ts B E.2 wf.heap.size wf.heap.size 5 [] 0 0 [] [] (BD.1 ++ [.mk 10 [] 0 0 [] [] [E.1]]) bs11 [] [] []) := Lib.hid hn8
    clear hn8 hf8 hk8
    have hcap := HN11.out.holds.2 _ (Only.refl _ _)
    have c1 := hcap.1
    have c2 := hcap.2
    clear hcap
    go_wp2_with fail
    have hb5 := bal (bre w11) (.cells #[.string (mk8 [59]), .string (mk8 [125])] 9)
    have hr5 := heap_alloc_new w11 (.cells #[.string (mk8 [59]), .string (mk8 [125])] 9)
    have hng : w11.heap.size ≠ g := fun e => by have := (Array.getElem?_eq_some_iff.1 HN11.out.pat.row).1; omega
    have hn5 := HN11.out.below hb5
    refine (want_tok g ta tc ts E.2 [[59], [125]] w11.heap.size 2 2 _ hn5.pat rfl (by have := HOE.out.pos; omega) (fun j x hx => ?_) hng).mono ?_
    · match j, hx with
      | 0, hx => cases hx; exact cell_of_row _ _ 0 _ _ _ hr5
      | 1, hx => cases hx; exact cell_of_row _ _ 1 _ _ _ hr5
    rintro e w12 ⟨rfl, h1, ho1⟩
    have HN12 : Hid (NS (Outer (fun w' => Caps w' (w3.heap.size + 1) w.heap.size w3.heap.size g) g wf.heap.size w.heap.size w3.heap.size 3 N.1 0 Y.1 [] [] PL.1 bsf) w w12 g ta tc ts B (Gr.want ts E.2 [[59], [125]]) wf.heap.size wf.heap.size 5 [] 0 0 [] [] (BD.1 ++ [.mk 10 [] 0 0 [] [] [E.1]]) bs11 [] [] []) := Lib.hid (hn5.call h1 ho1)
    clear hb5 hr5 hng hn5 h1 ho1 HN11
    have hn0 := (NS.unnest HN12.out HLOW.out.1 HLOW.out.2.1 HLOW.out.2.2.1 HLOW.out.2.2.2.1 HLOW.out.2.2.2.2).below (bdr (bre w12))
    clear c1 c2 HN12
    obtain ⟨kv, ps0, hrow0, -, -⟩ := hn0.box
    have hlow := hn0.low
    have hgtl := hn0.new w3.heap.size (List.mem_cons_self ..)
    have HROW : Hid (∀ w', Only w12.drew w' (fun k => k = g) → w'.heap[w3.heap.size]? = some (.cells (boxRow 3 N.1 0 Y.1 0 (.slice none 0 0) [] [] kv 0) 75 (0, 0))) := Lib.hid (fun w' ho => (ho.block w3.heap.size hgtl.2 (fun e => by omega)).trans hrow0)
    have HSS : Hid (∀ w', Only w12.drew w' (fun k => k = g) → (fun w' => Caps w' (w3.heap.size + 1) w.heap.size w3.heap.size g) w' → (fun w' => Caps w' (w3.heap.size + 1) w.heap.size w3.heap.size g) w' ∧ w'.cell? ⟨w3.heap.size, 8, none⟩ = some kv) := Lib.hid (fun w' ho hi => ⟨hi, cell_of_row w' w3.heap.size 8 _ _ _ (HROW.out w' ho)⟩)
    have HN0 := Lib.hid hn0
    clear hn0 hrow0 hlow hgtl
    have hlen : PL.1.length < 3000000 := by have h1 := HPL.out; have h2 := HM.out.2; omega
    go_upto_region 13 with fail
    refine region_anyZ (z := 8) (S := fun w' => (fun w' => Caps w' (w3.heap.size + 1) w.heap.size w3.heap.size g) w' ∧ w'.cell? ⟨w3.heap.size, 8, none⟩ = some kv) (by kernel_rfl) ?_
    refine anyZ_begin (fun hcl0 => ?_)
    refine anyZ_held (by exact HSS.out _ (Only.refl _ _) HN0.out.holds) (fun hHeld => ?_)
    -- 0: Op.load 48 (Operand.tmp 3)
    refine' anyZ_take (i := 0) (v := _) rfl (by rfl) (by kernel_rfl) (by kernel_rfl) (by kernel_rfl) hcl0 8 (by kernel_rfl) (by kernel_rfl) (fun _ _ _ h => h) (Or.inl ⟨by rfl, fun w hSw => ?hu1⟩) hHeld (fun hcl1 => ?ru1)
    case hu1 => (simp only [List.getElem_toArray, List.getElem_cons_zero]; obtain ⟨⟨hS1, hS2⟩, hS8⟩ := hSw; first | (go_simp; with_reducible rfl) | (go_simp; done) | rfl)
    simp only [List.getElem_toArray, List.getElem_cons_zero, Act.put, List.setIfInBounds_toArray, List.set_cons_zero, List.set_cons_succ]
    -- 1: Op.load 48 (Operand.tmp 3)
    refine' anyZ_take (i := 1) (v := _) rfl (by rfl) (by kernel_rfl) (by kernel_rfl) (by kernel_rfl) hcl1 8 (by kernel_rfl) (by kernel_rfl) (fun _ _ _ h => h) (Or.inl ⟨by rfl, fun w hSw => ?hu2⟩) hHeld (fun hcl2 => ?ru2)
    case hu2 => (simp only [List.getElem_toArray, List.getElem_cons_succ, List.getElem_cons_zero]; obtain ⟨⟨hS1, hS2⟩, hS8⟩ := hSw; first | (go_simp; with_reducible rfl) | (go_simp; done) | rfl)
    simp only [List.getElem_toArray, List.getElem_cons_succ, List.getElem_cons_zero, Act.put, List.setIfInBounds_toArray, List.set_cons_zero, List.set_cons_succ]
    -- 2: Op.nilCheck (Operand.tmp 74)
    refine' anyZ_pure (i := 2) (v := _) rfl (by rfl) (by kernel_rfl) (by kernel_rfl) (by kernel_rfl) hcl2 (fun _ _ _ h => h) (Or.inl ⟨by rfl, fun w _ => ?hu3⟩) (fun _ => hHeld) (fun hcl3 => ?ru3)
    case hu3 => (simp only [List.getElem_toArray, List.getElem_cons_succ, List.getElem_cons_zero]; first | (go_simp; with_reducible rfl) | (go_simp; done) | rfl)
    simp only [List.getElem_toArray, List.getElem_cons_succ, List.getElem_cons_zero, Act.put, List.setIfInBounds_toArray, List.set_cons_zero, List.set_cons_succ]
    -- 3: Op.fieldAddr 74 (Operand.tmp 75) 3
    refine' anyZ_pure (i := 3) (v := _) rfl (by rfl) (by kernel_rfl) (by kernel_rfl) (by kernel_rfl) hcl3 (fun _ _ _ h => h) (Or.inl ⟨by rfl, fun w _ => ?hu4⟩) (fun _ => hHeld) (fun hcl4 => ?ru4)
    case hu4 => (simp only [List.getElem_toArray, List.getElem_cons_succ, List.getElem_cons_zero]; first | (go_simp; with_reducible rfl) | (go_simp; done) | rfl)
    simp only [List.getElem_toArray, List.getElem_cons_succ, List.getElem_cons_zero, Act.put, List.setIfInBounds_toArray, List.set_cons_zero, List.set_cons_succ]
    -- 4: Op.load 54 (Operand.tmp 76)
    refine' anyZ_take (i := 4) (v := _) rfl (by rfl) (by kernel_rfl) (by kernel_rfl) (by kernel_rfl) hcl4 8 (by kernel_rfl) (by kernel_rfl) (fun _ _ _ h => h) (Or.inl ⟨by rfl, fun w hSw => ?hu5⟩) hHeld (fun hcl5 => ?ru5)
    case hu5 => (simp only [List.getElem_toArray, List.getElem_cons_succ, List.getElem_cons_zero]; obtain ⟨⟨hS1, hS2⟩, hS8⟩ := hSw; first | (go_simp; with_reducible rfl) | (go_simp; done) | rfl)
    simp only [List.getElem_toArray, List.getElem_cons_succ, List.getElem_cons_zero, Act.put, List.setIfInBounds_toArray, List.set_cons_zero, List.set_cons_succ]
    -- 5: Op.move (Operand.tmp 4)
    refine' anyZ_pure (i := 5) (v := _) rfl (by rfl) (by kernel_rfl) (by kernel_rfl) (by kernel_rfl) hcl5 (fun _ _ _ h => h) (Or.inl ⟨by rfl, fun w _ => ?hu6⟩) (fun _ => hHeld) (fun hcl6 => ?ru6)
    case hu6 => (simp only [List.getElem_toArray, List.getElem_cons_succ, List.getElem_cons_zero]; first | (go_simp; with_reducible rfl) | (go_simp; done) | rfl)
    simp only [List.getElem_toArray, List.getElem_cons_succ, List.getElem_cons_zero, Act.put, List.setIfInBounds_toArray, List.set_cons_zero, List.set_cons_succ]
    -- 6: Op.buildSlice 54 1 #[(0, Operand.tmp 78)]
    refine anyZ_one (i := 6) hcl6 (by kernel_rfl) (by simp only [List.getElem?_toArray, List.getElem?_cons_succ, List.getElem?_cons_zero]; rfl) (by rfl) (fun hcl7 K hK => ?_)
    generalize w12.drew = W6 at *
    go_simp
    have HO2 := Lib.hid (Only.refl W6 (fun k => k = g))
    have HN2 := HN0
    refine hK _ _ (fun _ => ?_) ?_
    · exact HSS.out _ (Only.of_below (bal (bre W6) _) _) (HN0.out.below (bal (bre W6) _)).holds
    clear hK K hHeld
    try simp only [Act.put, List.setIfInBounds_toArray, List.set_cons_zero, List.set_cons_succ]
    -- 7: Op.call { callee := Callee.builtin Builtin.append, args := #
    refine anyZ_one (i := 7) hcl7 (by kernel_rfl) (by simp only [List.getElem?_toArray, List.getElem?_cons_succ, List.getElem?_cons_zero]; rfl) (by rfl) (fun hcl8 K hK => ?_)
    have hb3 := bal (bre W6) (.cells #[.pointer (some ⟨wf.heap.size, 0, none⟩)] 47)
    have hrow3 := HROW.out _ (HO2.out.trans (Only.of_below hb3 _) fun _ _ h => h)
    obtain ⟨ps, hown, hlen, hngt, hinv, happ⟩ := (HN2.out.below hb3).app hrow3
    have hDsz := (HN2.out.below hb3).new w3.heap.size (List.mem_cons_self ..)
    have hnews : ∀ j u, [Value.pointer (some ⟨wf.heap.size, 0, none⟩)][j]? = some u → (W6.alloc (.cells #[.pointer (some ⟨wf.heap.size, 0, none⟩)] 47)).cell? ((⟨W6.heap.size, 0, none⟩ : Addr).add j) = some u := fun j u hu => by
      match j, hu with
      | 0, hu => cases hu; exact cell_of_row _ _ 0 _ _ _ (heap_alloc_new W6 _)
    generalize W6.alloc (.cells #[.pointer (some ⟨wf.heap.size, 0, none⟩)] 47) = W3 at *
    refine wp_app' _ _ 53 47 1 8 rowPtr rfl _ _ ps.length ps rfl hown ⟨W6.heap.size, 0, none⟩ 1 1 [.pointer (some ⟨wf.heap.size, 0, none⟩)] rfl rfl hnews (by simp [Value.oneCell']) (by unfold maxLen; omega) (by omega) (Nat.le_of_lt (Nat.lt_of_le_of_lt hDsz.1 hDsz.2)) ?_
    intro v8 w8 k8 hg8 hs8
    have HN8 := Lib.hid (happ w8 v8 hg8 hs8 (by unfold OwnPtrs; rw [List.length_append, List.length_singleton]; exact k8))
    obtain ⟨a8, c8, rfl, -⟩ := ownsRow_lies k8
    have hr8 := ((Only.of_grown hg8).block w3.heap.size hDsz.2 hngt).trans hrow3
    have HI8 := Lib.hid (hinv w8 hg8)
    have HR8 := Lib.hid hr8
    clear hb3 hrow3 hown hlen hngt hinv happ hDsz hnews hg8 hs8 k8 hr8
    refine hK _ _ (fun _ => ?_) ?_
    · exact ⟨HI8.out, cell_of_row w8 w3.heap.size 8 _ _ _ HR8.out⟩
    clear hK K
    try simp only [Act.put, List.setIfInBounds_toArray, List.set_cons_zero, List.set_cons_succ]
    refine anyZ_chain_at (by kernel_rfl) ?_
    simp only [List.drop_succ_cons, List.drop_zero]
    have hf8 := fun i => frozen_of_row w8 w3.heap.size i _ _ HR8.out
    have hk8 := cell_of_row w8 w3.heap.size 8 _ _ _ HR8.out
    obtain ⟨bs13, hn8⟩ := HN8.out
    clear HR8 HI8 HN8 HN0 HROW HSS HN2 HO2
    go_upto_region 14 with fail
    generalize w8.setCell ⟨w3.heap.size, 8, none⟩ (.slice a8 (ps.length + 1) c8) = w14 at *
    have HNZ := Lib.hid hn8
    clear hn8 hf8 hk8
    have hcap := HNZ.out.holds
    have c1 := hcap.1
    have c2 := hcap.2
    clear hcap
    go_wp2_with fail
    refine bodyPost_ret (v := .pointer (some ⟨w3.heap.size, 0, none⟩)) (by simp [results, Tryz.results28, go_sem]) rfl ?_
    rw [HR.out, ← HEM.out]
    exact ⟨_, _, rfl, HNZ.out.done, HNZ.out.pat, HNZ.out.only⟩
end Go.Proofs.YtljdphpbalioaaaGreatDoor
