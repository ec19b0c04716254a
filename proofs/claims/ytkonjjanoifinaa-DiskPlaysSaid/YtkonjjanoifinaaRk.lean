/- Walks: the document's disk: a new one. -/
import Derived.Test.YtkonjjanoifinaaRkTurned
import Derived.Test.YtkonjjanoifinaaDkRotE
import Derived.Test.YtkonjjanoifinaaMake
namespace Go.Proofs.Ytkonjjanoifinaa
open Go.RowKit

/-- rows of bytes, each of its own, in the blocks F -/
def RowsAt (w : World) (v : Value) (ls : List (List UInt8)) (F : Nat → Prop) : Prop :=
  ∃ us : List Value, us.length = ls.length ∧ w.ownsRow 0 22 1 v us.length us ∧
    (∀ (j : Nat) u l, us[j]? = some u → ls[j]? = some l → Own8 5 0 w u l ∧ ∀ k, u.ownBlock = some k → F k) ∧ ∀ k, v.ownBlock = some k → F k

theorem RowsAt.mono {w : World} {v : Value} {ls : List (List UInt8)} {F G : Nat → Prop} (h : RowsAt w v ls F) (hs : ∀ k, F k → G k) : RowsAt w v ls G := by
  obtain ⟨us, h1, h2, h3, h4⟩ := h
  exact ⟨us, h1, h2, fun j u l hu hl => ⟨(h3 j u l hu hl).1, fun k hk => hs k ((h3 j u l hu hl).2 k hk)⟩, fun k hk => hs k (h4 k hk)⟩

theorem RowsAt.only {w w' : World} {v : Value} {ls : List (List UInt8)} {F S : Nat → Prop} (h : RowsAt w v ls F) (ho : Only w w' S) (hs : ∀ k, F k → ¬ S k) : RowsAt w' v ls F := by
  obtain ⟨us, h1, h2, h3, h4⟩ := h
  exact ⟨us, h1, own_only h2 ho (fun k hk => hs k (h4 k hk)), fun j u l hu hl => ⟨own_only (h3 j u l hu hl).1 ho (fun k hk => hs k ((h3 j u l hu hl).2 k hk)), (h3 j u l hu hl).2⟩, h4⟩

theorem RowsAt.below {w w' : World} {v : Value} {ls : List (List UInt8)} {F : Nat → Prop} (h : RowsAt w v ls F) (hb : Below w.heap.size w w') : RowsAt w' v ls F :=
  h.only (Only.of_below hb fun _ => False) fun _ _ => id

theorem RowsAt.nil (w : World) (F : Nat → Prop) : RowsAt w (.slice none 0 0) [] F := ⟨[], rfl, World.ownsRow_nil _ _ _ _, fun j u l h => by simp at h, fun k hk => by cases hk⟩

/-- bytes stay where another thing than bytes turns -/
theorem own8_other {e T base : Nat} {w w' : World} {u : Value} {l : List UInt8} {gs : Nat} (h : Own8 e base w u l) (ho : Only w w' (fun k => k = gs)) {xs : List Value} {n size : Nat} {v : Value} (hv : w.ownsRow 0 T size v n xs) (hb : v.ownBlock = some gs) (hT : e ≠ T) : Own8 e base w' u l :=
  own_only h ho fun k hk e' => by
    rcases own_apart h hv hT with h' | h'
    · rw [h'] at hk; cases hk
    · exact h' (hk.trans (by rw [e', hb]))

theorem RowsAt.other {w w' : World} {v v' : Value} {ls : List (List UInt8)} {F : Nat → Prop} {gs : Nat} {us : List Value} {n : Nat} (h : RowsAt w v ls F) (ho : Only w w' (fun k => k = gs)) (hv : w.ownsRow 0 22 1 v' n us) (hb : v'.ownBlock = some gs) (hne : v.ownBlock ≠ some gs) : RowsAt w' v ls F := by
  obtain ⟨us, h1, h2, h3, h4⟩ := h
  exact ⟨us, h1, own_only h2 ho (fun k hk e => hne (by rw [← e]; exact hk)), fun j u l hu hl => ⟨own8_other (h3 j u l hu hl).1 ho hv hb (by decide), (h3 j u l hu hl).2⟩, h4⟩

theorem RowsAt.block {w w' : World} {v : Value} {ls : List (List UInt8)} {F : Nat → Prop} {r T : Nat} {cs : Array Value} {fr : Nat × Nat} (h : RowsAt w v ls F) (ho : Only w w' (fun k => k = r)) (hr : w.heap[r]? = some (.cells cs T fr)) (h1 : T ≠ 22) (h2 : T ≠ 5) : RowsAt w' v ls F := by
  obtain ⟨us, g1, g2, g3, g4⟩ := h
  exact ⟨us, g1, own_only g2 ho (fun k hk e => own_ne g2 hr h1 (by rw [← e]; exact hk)), fun j u l hu hl => ⟨own_only (g3 j u l hu hl).1 ho (fun k hk e => own_ne (g3 j u l hu hl).1 hr h2 (by rw [← e]; exact hk)), (g3 j u l hu hl).2⟩, g4⟩

theorem RowsAt.lies {w : World} {v : Value} {ls : List (List UInt8)} {F : Nat → Prop} (h : RowsAt w v ls F) : ∃ a c, v = .slice a ls.length c ∧ ls.length ≤ maxLen ∧ ls.length ≤ c := by
  obtain ⟨us, h1, h2, _⟩ := h
  obtain ⟨a, c, e, hc, hm, hn, _⟩ := ownsRow_lies h2
  rw [h1] at e hc
  exact ⟨a, c, e, Nat.le_trans hc hm, hc⟩

/-- one of them -/
theorem RowsAt.at {w : World} {v : Value} {ls : List (List UInt8)} {F : Nat → Prop} (h : RowsAt w v ls F) (i : Nat) (l : List UInt8) (hi : ls[i]? = some l) :
    ∃ g c u, v = .slice (some ⟨g, 0, none⟩) ls.length c ∧ F g ∧ w.cell? ⟨g, i, none⟩ = some u ∧ (∀ o, w.frozen? ⟨g, o, none⟩ = false) ∧ Own8 5 0 w u l ∧ ∀ k, u.ownBlock = some k → F k := by
  obtain ⟨us, h1, h2, h3, h4⟩ := h
  have hil : i < ls.length := (List.getElem?_eq_some_iff.1 hi).1
  rcases h2.2 with ⟨_, h0⟩ | ⟨g, cap, cur, rfl, _⟩
  · omega
  · have hu := List.getElem?_eq_getElem (l := us) (i := i) (by omega)
    obtain ⟨h5, h6⟩ := h3 i us[i] l hu hi
    exact ⟨g, cap, us[i], by rw [h1], h4 g rfl, (World.ownsRow.cellAt h2 i (by omega)).trans hu, fun o => World.ownsRow.frozenAt h2 o, h5, h6⟩

/-- one of them stored -/
theorem RowsAt.set {w : World} {g n c : Nat} {ls : List (List UInt8)} {F : Nat → Prop} (h : RowsAt w (.slice (some ⟨g, 0, none⟩) n c) ls F) (i : Nat) (u : Value) (l : List UInt8) (hu : Own8 5 0 w u l) (hF : ∀ k, u.ownBlock = some k → F k) :
    RowsAt (w.setCell ⟨g, i, none⟩ u) (.slice (some ⟨g, 0, none⟩) n c) (ls.set i l) F := by
  obtain ⟨us, h1, h2, h3, h4⟩ := h
  have hn : n = us.length := by
    rcases h2.2 with ⟨h', _⟩ | ⟨g', cap', cur, h', _⟩
    · cases h'
    · cases h'; rfl
  subst hn
  have ho : Only w (w.setCell ⟨g, i, none⟩ u) (fun k => k = g) := Only.setCell _ _ _
  have hst := (World.ownsRow.stored h2 i u).1
  refine ⟨us.set i u, by rw [List.length_set, List.length_set, h1], by rw [List.length_set]; exact hst, fun j u' l' hj hl => ?_, h4⟩
  by_cases hij : i = j
  · subst hij
    by_cases hi : i < us.length
    · rw [List.getElem?_set_self hi] at hj
      rw [List.getElem?_set_self (by omega)] at hl
      cases hj; cases hl
      exact ⟨own8_other hu ho h2 rfl (by decide), hF⟩
    · rw [List.getElem?_eq_none (by simp; omega)] at hj; cases hj
  · rw [List.getElem?_set_ne hij] at hj hl
    exact ⟨own8_other (h3 j u' l' hj hl).1 ho h2 rfl (by decide), (h3 j u' l' hj hl).2⟩

def Dk.refLeft (d : Dk) : Int := if d.bound then d.left else -1

/-- the document's disk, at r, in the blocks F -/
def RefAt (w : World) (r : Nat) (d : Dk) (F : Nat → Prop) : Prop :=
  d.Ok ∧ ∃ vs va vw, w.heap[r]? = some (.cells #[vs, va, vw, .int .i64 d.refLeft] 76 (0, 0)) ∧ RowsAt w vs d.safe F ∧ OwnInts 0 w va (d.wait.map (·.1)) ∧ (∀ k, va.ownBlock = some k → F k) ∧
    RowsAt w vw (d.wait.map (·.2)) F ∧ F r ∧ (vs.ownBlock = none ∨ vs.ownBlock ≠ vw.ownBlock) ∧ ∀ k, F k → k < w.heap.size

theorem RefAt.ok {w : World} {r : Nat} {d : Dk} {F : Nat → Prop} (h : RefAt w r d F) : d.Ok := h.1
theorem RefAt.lt {w : World} {r : Nat} {d : Dk} {F : Nat → Prop} (h : RefAt w r d F) : ∀ k, F k → k < w.heap.size := by
  obtain ⟨_, _, _, _, _, _, _, _, _, _, _, h⟩ := h; exact h
theorem RefAt.only {w w' : World} {r : Nat} {d : Dk} {F S : Nat → Prop} (h : RefAt w r d F) (ho : Only w w' S) (hs : ∀ k, F k → ¬ S k) : RefAt w' r d F := by
  obtain ⟨h0, vs, va, vw, h1, h2, h3, h4, h5, h6, h7, h8⟩ := h
  exact ⟨h0, vs, va, vw, (ho.block r (h8 r h6) (hs r h6)).trans h1, h2.only ho hs, own_only h3 ho (fun k hk => hs k (h4 k hk)), h4, h5.only ho hs, h6, h7, fun k hk => Nat.lt_of_lt_of_le (h8 k hk) ho.size⟩
theorem RefAt.below {w w' : World} {r : Nat} {d : Dk} {F : Nat → Prop} (h : RefAt w r d F) (hb : Below w.heap.size w w') : RefAt w' r d F :=
  h.only (Only.of_below hb fun _ => False) fun _ _ => id

theorem moved_ref {w w' : World} {F F' G : Nat → Prop} {r : Nat} {d : Dk} (hm : Moved w w' F F') (hd : RefAt w r d G) (ha : ∀ k, G k → ¬ F k) : RefAt w' r d G ∧ (∀ k, G k → ¬ F' k) := by
  refine ⟨hd.only hm.only ha, fun k hk hF => ?_⟩
  rcases hm.fresh k hF with h | h
  · exact ha k hk h
  · have := hd.lt k hk; omega

theorem rrow4 {w : World} {g T : Nat} {a b c d : Value} (h : w.heap[g]? = some (.cells #[a, b, c, d] T (0, 0))) :
    w.cell? ⟨g, 0, none⟩ = some a ∧ w.cell? ⟨g, 1, none⟩ = some b ∧ w.cell? ⟨g, 2, none⟩ = some c ∧ w.cell? ⟨g, 3, none⟩ = some d ∧ ∀ o, w.frozen? ⟨g, o, none⟩ = false :=
  ⟨cell_of_row w g 0 _ _ _ h, cell_of_row w g 1 _ _ _ h, cell_of_row w g 2 _ _ _ h, cell_of_row w g 3 _ _ _ h, fun o => frozen_of_row w g o _ _ h⟩

/-- what is known of rows that are all new -/
theorem rows_of_own {w : World} {base : Nat} {v : Value} {ls : List (List UInt8)} (h : OwnRows 22 5 base w v ls) : RowsAt w v ls (fun k => base ≤ k ∧ k < w.heap.size) := by
  obtain ⟨us, h1, h2, h3⟩ := h
  exact ⟨us, h1, ownsRow_base h2 (Nat.zero_le _), fun j u l hu hl => ⟨ownsRow_base (h3 j u l hu hl) (Nat.zero_le _), fun k hk => World.ownsRow.lt (h3 j u l hu hl) k hk⟩, fun k hk => World.ownsRow.lt h2 k hk⟩

theorem rowB : RowTy Try.prog 41 22 1 24 := RowTy.mk' (z := .slice none 0 0) Try.underlying41 (by kernel_rfl) rfl (by omega)

set_option maxRecDepth 10000 in
set_option maxHeartbeats 1600000 in
theorem refnew_any (n : Nat) (w : World) (h1 : n ≤ 4096) :
    Calls Try.prog 22 #[.int .i64 n] w fun e w' => ∃ r F, e = .returned (.pointer (some ⟨r, 0, none⟩)) ∧ RefAt w' r (Dk.new n) F ∧ (∀ k, F k → w.heap.size ≤ k) ∧ Below w.heap.size w w' := by
  go_enter Try.func22, Try.ntmps22
  go_wp2_with fail
  obtain ⟨r, hr⟩ : ∃ r, r = w.heap.size := ⟨_, rfl⟩
  have hr0 := heap_alloc_new w (.cells #[Value.slice none 0 0, Value.slice none 0 0, Value.slice none 0 0, Value.int .i64 (-1)] 76)
  have hb0 := bal (bre w) (.cells #[Value.slice none 0 0, Value.slice none 0 0, Value.slice none 0 0, Value.int .i64 (-1)] 76)
  have hs0 : (w.alloc (.cells #[Value.slice none 0 0, Value.slice none 0 0, Value.slice none 0 0, Value.int .i64 (-1)] 76)).heap.size = r + 1 := by rw [hr]; simp
  rw [← hr] at hr0 ⊢
  generalize w.alloc (.cells #[Value.slice none 0 0, Value.slice none 0 0, Value.slice none 0 0, Value.int .i64 (-1)] 76) = w0 at *
  have HR0 := Lib.hid hr0
  have HB0 := Lib.hid hb0
  have HS0 := Lib.hid hs0
  have HRR := Lib.hid hr
  clear hr0 hb0 hs0 hr
  go_loopw [4] (fun i wr => ∃ (k : Nat) (vs : Value), i = .int .i64 k ∧ k ≤ n ∧ Hid (wr.heap[r]? = some (.cells #[vs, Value.slice none 0 0, Value.slice none 0 0, Value.int .i64 (-1)] 76 (0, 0))) ∧
      Hid (OwnRows 22 5 (r + 1) wr vs (List.replicate k blank512)) ∧ Hid (Below r w0 wr)) (fun i _ => n - (intOf i).toNat)
  case atStart => exact ⟨0, _, rfl, by omega, HR0, Lib.hid (OwnRows.nil _ _ _ _), Lib.hid (Below.refl _ _)⟩
  case round =>
    obtain ⟨k, vs, rfl, hk, HR, HO, HB⟩ := hrel
    by_cases hlt : k < n
    · obtain ⟨d0, _, _, _, fr⟩ := rrow4 HR.out
      have hrl : r < wr.heap.size := (Array.getElem?_eq_some_iff.1 HR.out).1
      go_upto_region 5 with fail
      refine region_anyZ (z := 7) (S := fun w' => w'.cell? ⟨r, 0, none⟩ = some vs) (by kernel_rfl) ?_
      refine anyZ_begin (fun hcl0 => ?_)
      refine anyZ_held (by exact d0) (fun hHeld => ?_)
      -- 0: Op.move (Operand.tmp 3)
      refine' anyZ_pure (i := 0) (v := _) rfl (by rfl) (by kernel_rfl) (by kernel_rfl) (by kernel_rfl) hcl0 (fun _ _ _ h => h) (Or.inl ⟨by rfl, fun w _ => ?h1⟩) (fun _ => hHeld) (fun hcl1 => ?r1)
      case h1 => (simp only [List.getElem_toArray, List.getElem_cons_zero]; first | (go_simp; with_reducible rfl) | (go_simp; done) | rfl)
      simp only [List.getElem_toArray, List.getElem_cons_zero, Act.put, List.setIfInBounds_toArray, List.set_cons_zero, List.set_cons_succ]
      -- 1: Op.move (Operand.tmp 3)
      refine' anyZ_pure (i := 1) (v := _) rfl (by rfl) (by kernel_rfl) (by kernel_rfl) (by kernel_rfl) hcl1 (fun _ _ _ h => h) (Or.inl ⟨by rfl, fun w _ => ?h2⟩) (fun _ => hHeld) (fun hcl2 => ?r2)
      case h2 => (simp only [List.getElem_toArray, List.getElem_cons_succ, List.getElem_cons_zero]; first | (go_simp; with_reducible rfl) | (go_simp; done) | rfl)
      simp only [List.getElem_toArray, List.getElem_cons_succ, List.getElem_cons_zero, Act.put, List.setIfInBounds_toArray, List.set_cons_zero, List.set_cons_succ]
      -- 2: Op.nilCheck (Operand.tmp 13)
      refine' anyZ_pure (i := 2) (v := _) rfl (by rfl) (by kernel_rfl) (by kernel_rfl) (by kernel_rfl) hcl2 (fun _ _ _ h => h) (Or.inl ⟨by rfl, fun w _ => ?h3⟩) (fun _ => hHeld) (fun hcl3 => ?r3)
      case h3 => (simp only [List.getElem_toArray, List.getElem_cons_succ, List.getElem_cons_zero]; first | (go_simp; with_reducible rfl) | (go_simp; done) | rfl)
      simp only [List.getElem_toArray, List.getElem_cons_succ, List.getElem_cons_zero, Act.put, List.setIfInBounds_toArray, List.set_cons_zero, List.set_cons_succ]
      -- 3: Op.fieldAddr 76 (Operand.tmp 14) 0
      refine' anyZ_pure (i := 3) (v := _) rfl (by rfl) (by kernel_rfl) (by kernel_rfl) (by kernel_rfl) hcl3 (fun _ _ _ h => h) (Or.inl ⟨by rfl, fun w _ => ?h4⟩) (fun _ => hHeld) (fun hcl4 => ?r4)
      case h4 => (simp only [List.getElem_toArray, List.getElem_cons_succ, List.getElem_cons_zero]; first | (go_simp; with_reducible rfl) | (go_simp; done) | rfl)
      simp only [List.getElem_toArray, List.getElem_cons_succ, List.getElem_cons_zero, Act.put, List.setIfInBounds_toArray, List.set_cons_zero, List.set_cons_succ]
      -- 4: Op.load 41 (Operand.tmp 15)
      refine' anyZ_take (i := 4) (v := _) rfl (by rfl) (by kernel_rfl) (by kernel_rfl) (by kernel_rfl) hcl4 2 (by kernel_rfl) (by kernel_rfl) (fun _ _ _ h => h) (Or.inl ⟨by rfl, fun w hSw => ?h5⟩) hHeld (fun hcl5 => ?r5)
      case h5 => (simp only [List.getElem_toArray, List.getElem_cons_succ, List.getElem_cons_zero]; first | (go_simp; with_reducible rfl) | (go_simp; done) | rfl)
      simp only [List.getElem_toArray, List.getElem_cons_succ, List.getElem_cons_zero, Act.put, List.setIfInBounds_toArray, List.set_cons_zero, List.set_cons_succ]
      -- 5: Op.makeSlice 22 (Operand.const (Value.int IntKind.i64 512)) 
      refine anyZ_one (i := 5) hcl5 (by kernel_rfl) (by simp only [List.getElem?_toArray, List.getElem?_cons_succ, List.getElem?_cons_zero]; rfl) (by rfl) (fun hcl6 K hK => ?_)
      refine wp_make8 _ _ 22 5 make8 rfl 512 rfl rfl (by omega) ?_
      intro w2 hm2 hb2
      refine hK _ _ (fun _ => ?_) ?_
      · exact (hb2.cell (p := ⟨r, 0, none⟩) hrl).trans d0
      clear hK K hHeld
      have hHeld := ((hb2.cell (p := ⟨r, 0, none⟩) hrl).trans d0)
      try simp only [Act.put, List.setIfInBounds_toArray, List.set_cons_zero, List.set_cons_succ]
      -- 6: Op.buildSlice 41 1 #[(0, Operand.tmp 17)]
      refine anyZ_one (i := 6) hcl6 (by kernel_rfl) (by simp only [List.getElem?_toArray, List.getElem?_cons_succ, List.getElem?_cons_zero]; rfl) (by rfl) (fun hcl7 K hK => ?_)
      go_simp
      refine hK _ _ (fun _ => ?_) ?_
      · exact (((bal (bre w2) (.cells #[.slice (some ⟨wr.drew.heap.size, 0, none⟩) 512 512] 22)).cell (p := ⟨r, 0, none⟩) (Nat.lt_of_lt_of_le hrl hb2.size)).trans ((hb2.cell (p := ⟨r, 0, none⟩) hrl).trans d0))
      clear hK K hHeld
      try simp only [Act.put, List.setIfInBounds_toArray, List.set_cons_zero, List.set_cons_succ]
      refine anyZ_chain_at (by kernel_rfl) ?_
      simp only [List.drop_succ_cons, List.drop_zero]
      have hod := HO.out.kept (bdr (bre wr))
      have hoe := hod.kept hb2
      have hm2' := Own8.kept (base' := r + 1) hm2 (by have := hrl; show r + 1 ≤ wr.heap.size; omega) (bre w2)
      have hrl2 : r + 1 ≤ w2.heap.size := Nat.le_trans hrl hb2.size
      have hr2 : w2.heap[r]? = some (.cells #[vs, Value.slice none 0 0, Value.slice none 0 0, Value.int .i64 (-1)] 76 (0, 0)) := (hb2.block r hrl).trans HR.out
      have HO2 := Lib.hid hoe
      have HM2 := Lib.hid hm2'
      have HR2 := Lib.hid hr2
      have HB2 := Lib.hid (HB.out.trans ((bdr (bre wr)).trans hb2 |>.mono (Nat.le_of_lt hrl)))
      have hlen : (List.replicate k blank512).length = k := List.length_replicate
      clear hod hoe hm2' hr2 hm2 hb2 d0 fr
      refine wpList_appRow rfl _ _ 41 22 5 (by decide) 24 rowB rfl (r + 1) vs (List.replicate k blank512) rfl HO2.out _ blank512 HM2.out w2.heap.size rfl rfl (by rw [hlen]; omega) (by rw [hlen]; unfold maxLen; omega) hrl2 ?_
      intro v9 w9 ho9 hb9
      have hr9 := (hb9.block r (by omega)).trans HR2.out
      obtain ⟨d0, _, _, _, fr⟩ := rrow4 hr9
      have hls : List.replicate k blank512 ++ [blank512] = List.replicate (k + 1) blank512 := (List.replicate_succ' (n := k) (a := blank512)).symm
      rw [hls] at ho9
      obtain ⟨a9, c9, rfl, _⟩ := OwnRows.rows ho9
      rw [List.length_replicate] at ho9 ⊢
      have HO9 := Lib.hid ho9
      have HR9 := Lib.hid hr9
      have HB9 := Lib.hid hb9
      clear ho9 hr9 hb9
      go_wp2_with fail
      have ho7 : Only w9 _ (fun i => i = r) := Only.setCell w9 ⟨r, 0, none⟩ (.slice a9 (k + 1) c9)
      have hr7 := heap_setCell_same w9 r 0 _ _ (.slice a9 (k + 1) c9) HR9.out
      have hb7 : Below r w9 _ := (Below.refl _ w9).setCell (Nat.le_refl r) (p := ⟨r, 0, none⟩) (.slice a9 (k + 1) c9)
      have hb8 := HB2.out.trans ((HB9.out.mono (Nat.le_succ r)).trans hb7)
      obtain ⟨us, g1, g2, g3⟩ := HO9.out
      have ho8 : OwnRows 22 5 (r + 1) _ (.slice a9 (k + 1) c9) (List.replicate (k + 1) blank512) :=
        ⟨us, g1, own_only g2 ho7 (fun i hi e => by have := (World.ownsRow.lt g2 i hi).1; omega), fun j u l hu hl => own_only (g3 j u l hu hl) ho7 (fun i hi e => by have := (World.ownsRow.lt (g3 j u l hu hl) i hi).1; omega)⟩
      go_roundw
      case rel => exact ⟨k + 1, _, by go_num, by omega, Lib.hid hr7, Lib.hid ho8, Lib.hid hb8⟩
      case measure => first | (simp [intOf]; done) | (simp [intOf]; omega)
    · have e : k = n := by omega
      subst e
      go_wp2_with fail
      go_ret
      have hrl : r < wr.heap.size := (Array.getElem?_eq_some_iff.1 HR.out).1
      have hRows := rows_of_own HO.out
      have hF := HRR.out
      refine ⟨r, fun j => r ≤ j ∧ j < wr.heap.size, rfl, ⟨⟨fun s hs => ?_, (fun x hx => by cases hx), ?_⟩, vs, .slice none 0 0, .slice none 0 0, HR.out, ?_, ?_, (fun j hj => by cases hj), RowsAt.nil _ _, ⟨Nat.le_refl _, hrl⟩, ?_, fun j hj => hj.2⟩, fun j hj => by rw [← hF]; exact hj.1, ?_⟩
      · have hs' : s ∈ List.replicate k blank512 := hs
        rw [List.eq_of_mem_replicate hs']; simp [blank512]
      · show (List.replicate k blank512).length ≤ 4096
        rw [List.length_replicate]; exact h1
      · exact hRows.mono fun j hj => ⟨Nat.le_of_succ_le hj.1, hj.2⟩
      · exact World.ownsRow_nil _ _ _ _
      · rcases hRows with ⟨us, g1, g2, g3, g4⟩
        cases hvs : vs.ownBlock with
        | none => exact .inl rfl
        | some q => exact .inr (by simp [Value.ownBlock])
      · exact HB0.out.trans (by rw [← hF]; exact HB.out)
end Go.Proofs.Ytkonjjanoifinaa
