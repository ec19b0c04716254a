/- Walk: slices.Reverse at a row of IDs. -/
import Derived.Test.YtnbncjebmlicgaaNd
namespace Go.Proofs.Ytnbncjebmlicgaa
open Go.RowKit

theorem OwnIds.len_le {base : Nat} {w : World} {g n c : Nat} {l : List Nat} (h : OwnIds base w (.slice (some ⟨g, 0, none⟩) n c) l) : n = l.length ∧ l.length ≤ c ∧ c ≤ maxLen ∧ base ≤ g ∧ g < w.heap.size := by
  obtain ⟨h1, h2 | ⟨g', cap, cur, e, hb, hg, hc, hm, hs, ht⟩⟩ := h
  · exact absurd h2.1 (by simp)
  · cases e
    exact ⟨rfl, hc, hm, hb, (Array.getElem?_eq_some_iff.1 hg).1⟩
theorem OwnIds.cell {base : Nat} {w : World} {g n c : Nat} {l : List Nat} (h : OwnIds base w (.slice (some ⟨g, 0, none⟩) n c) l) {i x : Nat} (hi : l[i]? = some x) : w.cell? ⟨g, i, none⟩ = some (.int .u64 x) ∧ w.frozen? ⟨g, i, none⟩ = false := by
  obtain ⟨h1, h2 | ⟨g', cap, cur, e, hb, hg, hc, hm, hs, ht⟩⟩ := h
  · exact absurd h2.1 (by simp)
  · cases e
    refine ⟨?_, frozen_of_row w g i _ _ hg⟩
    unfold World.cell?
    simp only [hg]
    have hlt := (List.getElem?_eq_some_iff.1 hi).1
    have h3 : (cur.toList.take (l.length * 1))[i]? = some (U64 x) := by rw [ht, List.getElem?_map, hi]; rfl
    rw [List.getElem?_take_of_lt (by omega), Array.getElem?_toList] at h3
    exact h3
theorem OwnIds.set {base : Nat} {w : World} {g n c : Nat} {l : List Nat} (h : OwnIds base w (.slice (some ⟨g, 0, none⟩) n c) l) (i x : Nat) : OwnIds base (w.setCell ⟨g, i, none⟩ (.int .u64 x)) (.slice (some ⟨g, 0, none⟩) n c) (l.set i x) := by
  obtain ⟨h1, h2 | ⟨g', cap, cur, e, hb, hg, hc, hm, hs, ht⟩⟩ := h
  · exact absurd h2.1 (by simp)
  · cases e
    refine ⟨by simp, .inr ⟨g, c, cur.setIfInBounds i (U64 x), ?_, hb, ?_, ?_, hm, by simpa using hs, ?_⟩⟩
    · rw [List.length_set]
    · exact heap_setCell_same w g i cur _ (.int .u64 x) hg
    · rw [List.length_set]; exact hc
    · rw [List.length_set, Array.toList_setIfInBounds, List.take_set, ht, List.map_set]

/-- k steps of a reversal -/
def revTo (l : List Nat) (k : Nat) (m : List Nat) : Prop := m.length = l.length ∧ ∀ p, p < l.length → m[p]? = if p < k ∨ l.length - 1 - p < k then l[l.length - 1 - p]? else l[p]?
theorem revTo_zero (l : List Nat) : revTo l 0 l := ⟨rfl, fun p hp => by simp⟩
theorem revTo_step {l m : List Nat} {k x y : Nat} (h : revTo l k m) (hk : k < l.length - 1 - k) (hx : m[k]? = some x) (hy : m[l.length - 1 - k]? = some y) : revTo l (k + 1) ((m.set k y).set (l.length - 1 - k) x) := by
  refine ⟨by simp [h.1], fun p hp => ?_⟩
  have ex := h.2 k (by omega)
  have ey := h.2 (l.length - 1 - k) (by omega)
  rw [if_neg (by omega), hx] at ex
  rw [if_neg (by omega), hy] at ey
  by_cases h1 : p = l.length - 1 - k
  · subst h1
    rw [List.getElem?_set_self (by simp [h.1]; omega), if_pos (by omega), show l.length - 1 - (l.length - 1 - k) = k by omega, ← ex]
  · rw [List.getElem?_set_ne (by omega)]
    by_cases h2 : p = k
    · subst h2
      rw [List.getElem?_set_self (by simp [h.1]; omega), if_pos (by omega), ← ey]
    · rw [List.getElem?_set_ne (by omega), h.2 p hp]
      by_cases h3 : p < k ∨ l.length - 1 - p < k
      · rw [if_pos h3, if_pos (by omega)]
      · rw [if_neg h3, if_neg (by omega)]
theorem revTo_done {l m : List Nat} {k : Nat} (h : revTo l k m) (hk : l.length - 1 ≤ 2 * k) : m = l.reverse := by
  apply List.ext_getElem?
  intro p
  by_cases hp : p < l.length
  · rw [h.2 p hp, List.getElem?_reverse hp]
    split
    · rfl
    · rw [show l.length - 1 - p = p by omega]
  · rw [List.getElem?_eq_none (by rw [h.1]; omega), List.getElem?_eq_none (by simp; omega)]

set_option maxRecDepth 10000 in
set_option maxHeartbeats 1600000 in
theorem idreverse_any (base : Nat) (v : Value) (l : List Nat) (w : World) (hv : OwnIds base w v l) :
    Calls Try.prog 64 #[v] w fun e w' => e = .returned (.tuple #[]) ∧ OwnIds base w' v l.reverse ∧ Only w w' (fun q => v.ownBlock = some q) := by
  obtain ⟨a, c, rfl⟩ := hv.slice
  obtain ⟨L, hL⟩ : ∃ L, L = l.length := ⟨_, rfl⟩
  by_cases hL2 : l.length ≤ 1
  · have hrev : l.reverse = l := by
      match l, hL2 with
      | [], _ => rfl
      | [x], _ => rfl
    rw [hrev]
    have HV := Lib.hid hv
    rw [← hL] at HV ⊢
    have hL01 : L = 0 ∨ L = 1 := by omega
    clear hv hrev hL2 hL
    rcases hL01 with rfl | rfl
    · go_enter Try.func64, Try.ntmps64
      go_wp2_with fail
      go_loopw [2, 3] (fun i j wr => i = .int .i64 0 ∧ j = .int .i64 (-1) ∧ wr = w) (fun _ _ _ => 0)
      case atStart => exact ⟨rfl, rfl, rfl⟩
      case round =>
        obtain ⟨rfl, rfl, rfl⟩ := hrel
        go_wp2_with fail
        go_end0
        exact ⟨rfl, HV.out, Only.refl _ _⟩
    · go_enter Try.func64, Try.ntmps64
      go_wp2_with fail
      go_loopw [2, 3] (fun i j wr => i = .int .i64 0 ∧ j = .int .i64 0 ∧ wr = w) (fun _ _ _ => 0)
      case atStart => exact ⟨rfl, rfl, rfl⟩
      case round =>
        obtain ⟨rfl, rfl, rfl⟩ := hrel
        go_wp2_with fail
        go_end0
        exact ⟨rfl, HV.out, Only.refl _ _⟩
  · have h2 : 2 ≤ l.length := by omega
    cases a with
    | none => exact absurd hv.2 (by rintro (h | ⟨_, _, _, h, _⟩); exact absurd h.2 (by omega); cases h)
    | some ad =>
      obtain ⟨g, rfl⟩ : ∃ g, ad = ⟨g, 0, none⟩ := by
        obtain ⟨h1, h3 | ⟨g', cap, cur, e, -⟩⟩ := hv
        · exact absurd h3.1 (by simp)
        · cases e; exact ⟨g', rfl⟩
      have HS := Lib.hid hv.len_le
      have HX := Lib.hid hv
      have H2 := Lib.hid h2
      have HL := Lib.hid hL
      rw [← hL] at HX ⊢
      have hm : L ≤ 9223372036854775807 := by have := hv.len_le; unfold maxLen at this; omega
      have hm2 : 2 ≤ L := by omega
      clear hL hv h2 hL2
      go_enter Try.func64, Try.ntmps64
      go_wp2_with fail
      go_loopw [2, 3] (fun i j wr => ∃ (k : Nat) (m : List Nat), k ≤ L ∧ 2 * k ≤ L + 1 ∧ i = .int .i64 k ∧ j = .int .i64 ((L : Int) - 1 - k) ∧ Hid (revTo l k m ∧ OwnIds base wr (.slice (some ⟨g, 0, none⟩) L c) m ∧ Only w wr (fun q => q = g))) (fun i _ _ => L - (intOf i).toNat)
      case atStart => exact ⟨0, l, by omega, by omega, rfl, by simp, Lib.hid ⟨revTo_zero l, HX.out, Only.refl _ _⟩⟩
      case round =>
        obtain ⟨k, m, hk, hk2, rfl, rfl, hin⟩ := hrel
        by_cases hlt : k < L - 1 - k
        · have d1 : decide ((k : Int) < (L : Int) - 1 - k) = true := decide_eq_true (by omega)
          obtain ⟨x, hx⟩ : ∃ x, m[k]? = some x := ⟨_, List.getElem?_eq_getElem (by rw [hin.out.1.1, ← HL.out]; omega)⟩
          obtain ⟨y, hy⟩ : ∃ y, m[l.length - 1 - k]? = some y := ⟨_, List.getElem?_eq_getElem (by rw [hin.out.1.1, ← HL.out]; omega)⟩
          have hst := Lib.hid (revTo_step hin.out.1 (by rw [← HL.out]; exact hlt) hx hy)
          obtain ⟨kk, hkk⟩ : ∃ kk : Nat, kk = L - 1 - k := ⟨_, rfl⟩
          rw [← HL.out, ← hkk] at hy hst
          have c1 := hin.out.2.1.cell hx
          have c2 := hin.out.2.1.cell hy
          have ekk : (L : Int) - 1 - k = (kk : Int) := by omega
          rw [ekk] at d1 ⊢
          have HKK := Lib.hid hkk
          have b1 : kk < L := by omega
          have b2 : k < L := by omega
          have b3 : k < kk := by omega
          have b4 : k + 1 ≤ 9223372036854775807 := by omega
          obtain ⟨hc1, hf1⟩ := c1
          obtain ⟨hc2, hf2⟩ := c2
          have HC := Lib.hid (And.intro hc1 hc2)
          clear hx hy ekk hkk
          go_upto_region 3 with fail
          have hc3 : wr.drew.cell? ⟨g, k, none⟩ = some (.int .u64 x) := HC.out.1
          have hc4 : wr.drew.cell? ⟨g, kk, none⟩ = some (.int .u64 y) := HC.out.2
          refine region_anyZ (z := 12) (S := fun w' => w'.cell? ⟨g, k, none⟩ = some (.int .u64 x) ∧ w'.cell? ⟨g, kk, none⟩ = some (.int .u64 y)) (by kernel_rfl) ?_
          refine anyZ_begin (fun hcl0 => ?_)
          refine anyZ_held (by exact ⟨hc3, hc4⟩) (fun hHeld => ?_)
          -- 0: Op.move (Operand.tmp 0)
          refine' anyZ_pure (i := 0) (v := _) rfl (by rfl) (by kernel_rfl) (by kernel_rfl) (by kernel_rfl) hcl0 (fun _ _ _ h => h) (Or.inl ⟨by rfl, fun w _ => ?hy1⟩) (fun _ => hHeld) (fun hcl1 => ?ry1)
          case hy1 => (simp only [List.getElem_toArray, List.getElem_cons_zero]; first | (go_simp; with_reducible rfl) | (go_simp; done) | rfl)
          simp only [List.getElem_toArray, List.getElem_cons_zero, Act.put, List.setIfInBounds_toArray, List.set_cons_zero, List.set_cons_succ]
          -- 1: Op.move (Operand.tmp 2)
          refine' anyZ_pure (i := 1) (v := _) rfl (by rfl) (by kernel_rfl) (by kernel_rfl) (by kernel_rfl) hcl1 (fun _ _ _ h => h) (Or.inl ⟨by rfl, fun w _ => ?hy2⟩) (fun _ => hHeld) (fun hcl2 => ?ry2)
          case hy2 => (simp only [List.getElem_toArray, List.getElem_cons_succ, List.getElem_cons_zero]; first | (go_simp; with_reducible rfl) | (go_simp; done) | rfl)
          simp only [List.getElem_toArray, List.getElem_cons_succ, List.getElem_cons_zero, Act.put, List.setIfInBounds_toArray, List.set_cons_zero, List.set_cons_succ]
          -- 2: Op.move (Operand.tmp 0)
          refine' anyZ_pure (i := 2) (v := _) rfl (by rfl) (by kernel_rfl) (by kernel_rfl) (by kernel_rfl) hcl2 (fun _ _ _ h => h) (Or.inl ⟨by rfl, fun w _ => ?hy3⟩) (fun _ => hHeld) (fun hcl3 => ?ry3)
          case hy3 => (simp only [List.getElem_toArray, List.getElem_cons_succ, List.getElem_cons_zero]; first | (go_simp; with_reducible rfl) | (go_simp; done) | rfl)
          simp only [List.getElem_toArray, List.getElem_cons_succ, List.getElem_cons_zero, Act.put, List.setIfInBounds_toArray, List.set_cons_zero, List.set_cons_succ]
          -- 3: Op.move (Operand.tmp 3)
          refine' anyZ_pure (i := 3) (v := _) rfl (by rfl) (by kernel_rfl) (by kernel_rfl) (by kernel_rfl) hcl3 (fun _ _ _ h => h) (Or.inl ⟨by rfl, fun w _ => ?hy4⟩) (fun _ => hHeld) (fun hcl4 => ?ry4)
          case hy4 => (simp only [List.getElem_toArray, List.getElem_cons_succ, List.getElem_cons_zero]; first | (go_simp; with_reducible rfl) | (go_simp; done) | rfl)
          simp only [List.getElem_toArray, List.getElem_cons_succ, List.getElem_cons_zero, Act.put, List.setIfInBounds_toArray, List.set_cons_zero, List.set_cons_succ]
          -- 4: Op.move (Operand.tmp 0)
          refine' anyZ_pure (i := 4) (v := _) rfl (by rfl) (by kernel_rfl) (by kernel_rfl) (by kernel_rfl) hcl4 (fun _ _ _ h => h) (Or.inl ⟨by rfl, fun w _ => ?hy5⟩) (fun _ => hHeld) (fun hcl5 => ?ry5)
          case hy5 => (simp only [List.getElem_toArray, List.getElem_cons_succ, List.getElem_cons_zero]; first | (go_simp; with_reducible rfl) | (go_simp; done) | rfl)
          simp only [List.getElem_toArray, List.getElem_cons_succ, List.getElem_cons_zero, Act.put, List.setIfInBounds_toArray, List.set_cons_zero, List.set_cons_succ]
          -- 5: Op.move (Operand.tmp 3)
          refine' anyZ_pure (i := 5) (v := _) rfl (by rfl) (by kernel_rfl) (by kernel_rfl) (by kernel_rfl) hcl5 (fun _ _ _ h => h) (Or.inl ⟨by rfl, fun w _ => ?hy6⟩) (fun _ => hHeld) (fun hcl6 => ?ry6)
          case hy6 => (simp only [List.getElem_toArray, List.getElem_cons_succ, List.getElem_cons_zero]; first | (go_simp; with_reducible rfl) | (go_simp; done) | rfl)
          simp only [List.getElem_toArray, List.getElem_cons_succ, List.getElem_cons_zero, Act.put, List.setIfInBounds_toArray, List.set_cons_zero, List.set_cons_succ]
          -- 6: Op.indexAddr 27 (Operand.tmp 18) (Operand.tmp 19)
          refine' anyZ_pure (i := 6) (v := _) rfl (by rfl) (by kernel_rfl) (by kernel_rfl) (by kernel_rfl) hcl6 (fun _ _ _ h => h) (Or.inl ⟨by rfl, fun w _ => ?hy7⟩) (fun _ => hHeld) (fun hcl7 => ?ry7)
          case hy7 => (simp only [List.getElem_toArray, List.getElem_cons_succ, List.getElem_cons_zero]; first | (go_simp; with_reducible rfl) | (go_simp; done) | rfl)
          simp only [List.getElem_toArray, List.getElem_cons_succ, List.getElem_cons_zero, Act.put, List.setIfInBounds_toArray, List.set_cons_zero, List.set_cons_succ]
          -- 7: Op.load 26 (Operand.tmp 20)
          refine' anyZ_take (i := 7) (v := _) rfl (by rfl) (by kernel_rfl) (by kernel_rfl) (by kernel_rfl) hcl7 12 (by kernel_rfl) (by kernel_rfl) (fun _ _ _ h => h) (Or.inl ⟨by rfl, fun w hSw => ?hy8⟩) hHeld (fun hcl8 => ?ry8)
          case hy8 => (simp only [List.getElem_toArray, List.getElem_cons_succ, List.getElem_cons_zero]; obtain ⟨hS1, hS2⟩ := hSw; first | (go_simp; with_reducible rfl) | (go_simp; done) | rfl)
          simp only [List.getElem_toArray, List.getElem_cons_succ, List.getElem_cons_zero, Act.put, List.setIfInBounds_toArray, List.set_cons_zero, List.set_cons_succ]
          -- 8: Op.move (Operand.tmp 0)
          refine' anyZ_pure (i := 8) (v := _) rfl (by rfl) (by kernel_rfl) (by kernel_rfl) (by kernel_rfl) hcl8 (fun _ _ _ h => h) (Or.inl ⟨by rfl, fun w _ => ?hy9⟩) (fun _ => hHeld) (fun hcl9 => ?ry9)
          case hy9 => (simp only [List.getElem_toArray, List.getElem_cons_succ, List.getElem_cons_zero]; first | (go_simp; with_reducible rfl) | (go_simp; done) | rfl)
          simp only [List.getElem_toArray, List.getElem_cons_succ, List.getElem_cons_zero, Act.put, List.setIfInBounds_toArray, List.set_cons_zero, List.set_cons_succ]
          -- 9: Op.move (Operand.tmp 2)
          refine' anyZ_pure (i := 9) (v := _) rfl (by rfl) (by kernel_rfl) (by kernel_rfl) (by kernel_rfl) hcl9 (fun _ _ _ h => h) (Or.inl ⟨by rfl, fun w _ => ?hy10⟩) (fun _ => hHeld) (fun hcl10 => ?ry10)
          case hy10 => (simp only [List.getElem_toArray, List.getElem_cons_succ, List.getElem_cons_zero]; first | (go_simp; with_reducible rfl) | (go_simp; done) | rfl)
          simp only [List.getElem_toArray, List.getElem_cons_succ, List.getElem_cons_zero, Act.put, List.setIfInBounds_toArray, List.set_cons_zero, List.set_cons_succ]
          -- 10: Op.indexAddr 27 (Operand.tmp 22) (Operand.tmp 23)
          refine' anyZ_pure (i := 10) (v := _) rfl (by rfl) (by kernel_rfl) (by kernel_rfl) (by kernel_rfl) hcl10 (fun _ _ _ h => h) (Or.inl ⟨by rfl, fun w _ => ?hy11⟩) (fun _ => hHeld) (fun hcl11 => ?ry11)
          case hy11 => (simp only [List.getElem_toArray, List.getElem_cons_succ, List.getElem_cons_zero]; first | (go_simp; with_reducible rfl) | (go_simp; done) | rfl)
          simp only [List.getElem_toArray, List.getElem_cons_succ, List.getElem_cons_zero, Act.put, List.setIfInBounds_toArray, List.set_cons_zero, List.set_cons_succ]
          -- 11: Op.load 26 (Operand.tmp 24)
          refine' anyZ_take (i := 11) (v := _) rfl (by rfl) (by kernel_rfl) (by kernel_rfl) (by kernel_rfl) hcl11 12 (by kernel_rfl) (by kernel_rfl) (fun _ _ _ h => h) (Or.inl ⟨by rfl, fun w hSw => ?hy12⟩) hHeld (fun hcl12 => ?ry12)
          case hy12 => (simp only [List.getElem_toArray, List.getElem_cons_succ, List.getElem_cons_zero]; obtain ⟨hS1, hS2⟩ := hSw; first | (go_simp; with_reducible rfl) | (go_simp; done) | rfl)
          simp only [List.getElem_toArray, List.getElem_cons_succ, List.getElem_cons_zero, Act.put, List.setIfInBounds_toArray, List.set_cons_zero, List.set_cons_succ]
          clear hHeld
          refine anyZ_chain_at (by kernel_rfl) ?_
          simp only [List.drop_succ_cons, List.drop_zero]
          go_wp2_with fail
          go_roundw
          case rel =>
            have o2 := ((hin.out.2.1.set k y).set kk x)
            have o3 : Only wr ((wr.setCell ⟨g, k, none⟩ (.int .u64 y)).setCell ⟨g, kk, none⟩ (.int .u64 x)) (fun q => q = g) := (Only.setCell wr ⟨g, k, none⟩ _).trans (Only.setCell _ ⟨g, kk, none⟩ _) fun _ _ h => h
            refine ⟨k + 1, (m.set k y).set kk x, by omega, by have := HKK.out; omega, by go_num, ?_, Lib.hid ⟨hst.out, o2, (hin.out.2.2.trans o3 fun _ _ h => h).drew⟩⟩
            have := HKK.out
            congr 1
            omega
          case measure => simp [intOf]; omega
        · have d1 : decide ((k : Int) < (L : Int) - 1 - k) = false := decide_eq_false (by omega)
          go_wp2_with fail
          go_end0
          refine ⟨rfl, ?_, hin.out.2.2.mono fun i _ e => by rw [e]; rfl⟩
          rw [← revTo_done hin.out.1 (by rw [← HL.out]; omega)]
          exact hin.out.2.1
end Go.Proofs.Ytnbncjebmlicgaa
