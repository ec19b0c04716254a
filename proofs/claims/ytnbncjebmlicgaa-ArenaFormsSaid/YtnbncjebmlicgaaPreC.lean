/- Merged: Rev WalkP SrtB SrtScan SrtLen SrtPiv SrtPivC SrtIns SrtRev. -/
import Derived.Test.YtnbncjebmlicgaaPreA
import Derived.Test.YtnbncjebmlicgaaPreB
import Derived.OwnWalkIn
import Derived.Sort.AssemblyPlain
import Derived.Lib.BitFns
/- Walk: slices.Reverse at a row of IDs. -/
namespace Go.Proofs.Ytnbncjebmlicgaa
open Go.RowKit

theorem OwnIds.len_le {base : Nat} {w : World} {g n c : Nat} {l : List Nat} (h : OwnIds base w (.slice (some ⟨g, 0, none⟩) n c) l) : n = l.length ∧ l.length ≤ c ∧ c ≤ maxLen ∧ base ≤ g ∧ g < w.heap.size := by
  obtain ⟨h1, h2 | ⟨g', cap, cur, e, hb, hg, hc, hm, hs, ht⟩⟩ := h
  · exact absurd h2.1 (by simp)
  · cases e
    exact ⟨rfl, hc, hm, hb, (Array.getElem?_eq_some_iff.1 hg).1⟩
theorem OwnIds.cell {base : Nat} {w : World} {g n c : Nat} {l : List Nat} (h : OwnIds base w (.slice (some ⟨g, 0, none⟩) n c) l) {i x : Nat} (hi : l[i]? = some x) : w.cell? ⟨g, i, none⟩ = some (.int .u64 x) ∧ w.frozen? ⟨g, i, none⟩ = false := by
  obtain ⟨h1, h2 | ⟨g', cap, cur, e, hb, hg, hc, hm, hs, ht⟩⟩ := h
  · exact absurd h2.1 (by simp)
  · cases e
    refine ⟨?_, frozen_of_row w g i _ _ hg⟩
    unfold World.cell?
    simp only [hg]
    have hlt := (List.getElem?_eq_some_iff.1 hi).1
    have h3 : (cur.toList.take (l.length * 1))[i]? = some (U64 x) := by rw [ht, List.getElem?_map, hi]; rfl
    rw [List.getElem?_take_of_lt (by omega), Array.getElem?_toList] at h3
    exact h3
theorem OwnIds.set {base : Nat} {w : World} {g n c : Nat} {l : List Nat} (h : OwnIds base w (.slice (some ⟨g, 0, none⟩) n c) l) (i x : Nat) : OwnIds base (w.setCell ⟨g, i, none⟩ (.int .u64 x)) (.slice (some ⟨g, 0, none⟩) n c) (l.set i x) := by
  obtain ⟨h1, h2 | ⟨g', cap, cur, e, hb, hg, hc, hm, hs, ht⟩⟩ := h
  · exact absurd h2.1 (by simp)
  · cases e
    refine ⟨by simp, .inr ⟨g, c, cur.setIfInBounds i (U64 x), ?_, hb, ?_, ?_, hm, by simpa using hs, ?_⟩⟩
    · rw [List.length_set]
    · exact heap_setCell_same w g i cur _ (.int .u64 x) hg
    · rw [List.length_set]; exact hc
    · rw [List.length_set, Array.toList_setIfInBounds, List.take_set, ht, List.map_set]

/-- k steps of a reversal -/
def revTo (l : List Nat) (k : Nat) (m : List Nat) : Prop := m.length = l.length ∧ ∀ p, p < l.length → m[p]? = if p < k ∨ l.length - 1 - p < k then l[l.length - 1 - p]? else l[p]?
theorem revTo_zero (l : List Nat) : revTo l 0 l := ⟨rfl, fun p hp => by simp⟩
theorem revTo_step {l m : List Nat} {k x y : Nat} (h : revTo l k m) (hk : k < l.length - 1 - k) (hx : m[k]? = some x) (hy : m[l.length - 1 - k]? = some y) : revTo l (k + 1) ((m.set k y).set (l.length - 1 - k) x) := by
  refine ⟨by simp [h.1], fun p hp => ?_⟩
  have ex := h.2 k (by omega)
  have ey := h.2 (l.length - 1 - k) (by omega)
  rw [if_neg (by omega), hx] at ex
  rw [if_neg (by omega), hy] at ey
  by_cases h1 : p = l.length - 1 - k
  · subst h1
    rw [List.getElem?_set_self (by simp [h.1]; omega), if_pos (by omega), show l.length - 1 - (l.length - 1 - k) = k by omega, ← ex]
  · rw [List.getElem?_set_ne (by omega)]
    by_cases h2 : p = k
    · subst h2
      rw [List.getElem?_set_self (by simp [h.1]; omega), if_pos (by omega), ← ey]
    · rw [List.getElem?_set_ne (by omega), h.2 p hp]
      by_cases h3 : p < k ∨ l.length - 1 - p < k
      · rw [if_pos h3, if_pos (by omega)]
      · rw [if_neg h3, if_neg (by omega)]
theorem revTo_done {l m : List Nat} {k : Nat} (h : revTo l k m) (hk : l.length - 1 ≤ 2 * k) : m = l.reverse := by
  apply List.ext_getElem?
  intro p
  by_cases hp : p < l.length
  · rw [h.2 p hp, List.getElem?_reverse hp]
    split
    · rfl
    · rw [show l.length - 1 - p = p by omega]
  · rw [List.getElem?_eq_none (by rw [h.1]; omega), List.getElem?_eq_none (by simp; omega)]

set_option maxRecDepth 10000 in
set_option maxHeartbeats 1600000 in
theorem idreverse_any (base : Nat) (v : Value) (l : List Nat) (w : World) (hv : OwnIds base w v l) :
    Calls Try.prog 64 #[v] w fun e w' => e = .returned (.tuple #[]) ∧ OwnIds base w' v l.reverse ∧ Only w w' (fun q => v.ownBlock = some q) := by
  obtain ⟨a, c, rfl⟩ := hv.slice
  obtain ⟨L, hL⟩ : ∃ L, L = l.length := ⟨_, rfl⟩
  by_cases hL2 : l.length ≤ 1
  · have hrev : l.reverse = l := by
      match l, hL2 with
      | [], _ => rfl
      | [x], _ => rfl
    rw [hrev]
    have HV := Lib.hid hv
    rw [← hL] at HV ⊢
    have hL01 : L = 0 ∨ L = 1 := by omega
    clear hv hrev hL2 hL
    rcases hL01 with rfl | rfl
    · go_enter Try.func64, Try.ntmps64
      go_wp2_with fail
      go_loopw [2, 3] (fun i j wr => i = .int .i64 0 ∧ j = .int .i64 (-1) ∧ wr = w) (fun _ _ _ => 0)
      case atStart => exact ⟨rfl, rfl, rfl⟩
      case round =>
        obtain ⟨rfl, rfl, rfl⟩ := hrel
        go_wp2_with fail
        go_end0
        exact ⟨rfl, HV.out, Only.refl _ _⟩
    · go_enter Try.func64, Try.ntmps64
      go_wp2_with fail
      go_loopw [2, 3] (fun i j wr => i = .int .i64 0 ∧ j = .int .i64 0 ∧ wr = w) (fun _ _ _ => 0)
      case atStart => exact ⟨rfl, rfl, rfl⟩
      case round =>
        obtain ⟨rfl, rfl, rfl⟩ := hrel
        go_wp2_with fail
        go_end0
        exact ⟨rfl, HV.out, Only.refl _ _⟩
  · have h2 : 2 ≤ l.length := by omega
    cases a with
    | none => exact absurd hv.2 (by rintro (h | ⟨_, _, _, h, _⟩); exact absurd h.2 (by omega); cases h)
    | some ad =>
      obtain ⟨g, rfl⟩ : ∃ g, ad = ⟨g, 0, none⟩ := by
        obtain ⟨h1, h3 | ⟨g', cap, cur, e, -⟩⟩ := hv
        · exact absurd h3.1 (by simp)
        · cases e; exact ⟨g', rfl⟩
      have HS := Lib.hid hv.len_le
      have HX := Lib.hid hv
      have H2 := Lib.hid h2
      have HL := Lib.hid hL
      rw [← hL] at HX ⊢
      have hm : L ≤ 9223372036854775807 := by have := hv.len_le; unfold maxLen at this; omega
      have hm2 : 2 ≤ L := by omega
      clear hL hv h2 hL2
      go_enter Try.func64, Try.ntmps64
      go_wp2_with fail
      go_loopw [2, 3] (fun i j wr => ∃ (k : Nat) (m : List Nat), k ≤ L ∧ 2 * k ≤ L + 1 ∧ i = .int .i64 k ∧ j = .int .i64 ((L : Int) - 1 - k) ∧ Hid (revTo l k m ∧ OwnIds base wr (.slice (some ⟨g, 0, none⟩) L c) m ∧ Only w wr (fun q => q = g))) (fun i _ _ => L - (intOf i).toNat)
      case atStart => exact ⟨0, l, by omega, by omega, rfl, by simp, Lib.hid ⟨revTo_zero l, HX.out, Only.refl _ _⟩⟩
      case round =>
        obtain ⟨k, m, hk, hk2, rfl, rfl, hin⟩ := hrel
        by_cases hlt : k < L - 1 - k
        · have d1 : decide ((k : Int) < (L : Int) - 1 - k) = true := decide_eq_true (by omega)
          obtain ⟨x, hx⟩ : ∃ x, m[k]? = some x := ⟨_, List.getElem?_eq_getElem (by rw [hin.out.1.1, ← HL.out]; omega)⟩
          obtain ⟨y, hy⟩ : ∃ y, m[l.length - 1 - k]? = some y := ⟨_, List.getElem?_eq_getElem (by rw [hin.out.1.1, ← HL.out]; omega)⟩
          have hst := Lib.hid (revTo_step hin.out.1 (by rw [← HL.out]; exact hlt) hx hy)
          obtain ⟨kk, hkk⟩ : ∃ kk : Nat, kk = L - 1 - k := ⟨_, rfl⟩
          rw [← HL.out, ← hkk] at hy hst
          have c1 := hin.out.2.1.cell hx
          have c2 := hin.out.2.1.cell hy
          have ekk : (L : Int) - 1 - k = (kk : Int) := by omega
          rw [ekk] at d1 ⊢
          have HKK := Lib.hid hkk
          have b1 : kk < L := by omega
          have b2 : k < L := by omega
          have b3 : k < kk := by omega
          have b4 : k + 1 ≤ 9223372036854775807 := by omega
          obtain ⟨hc1, hf1⟩ := c1
          obtain ⟨hc2, hf2⟩ := c2
          have HC := Lib.hid (And.intro hc1 hc2)
          clear hx hy ekk hkk
          go_upto_region 3 with fail
          have hc3 : wr.drew.cell? ⟨g, k, none⟩ = some (.int .u64 x) := HC.out.1
          have hc4 : wr.drew.cell? ⟨g, kk, none⟩ = some (.int .u64 y) := HC.out.2
          refine region_anyZ (z := 12) (S := fun w' => w'.cell? ⟨g, k, none⟩ = some (.int .u64 x) ∧ w'.cell? ⟨g, kk, none⟩ = some (.int .u64 y)) (by kernel_rfl) ?_
          refine anyZ_begin (fun hcl0 => ?_)
          refine anyZ_held (by exact ⟨hc3, hc4⟩) (fun hHeld => ?_)
          -- 0: Op.move (Operand.tmp 0)
          refine' anyZ_pure (i := 0) (v := _) rfl (by rfl) (by kernel_rfl) (by kernel_rfl) (by kernel_rfl) hcl0 (fun _ _ _ h => h) (Or.inl ⟨by rfl, fun w _ => ?hy1⟩) (fun _ => hHeld) (fun hcl1 => ?ry1)
          case hy1 => (simp only [List.getElem_toArray, List.getElem_cons_zero]; first | (go_simp; with_reducible rfl) | (go_simp; done) | rfl)
          simp only [List.getElem_toArray, List.getElem_cons_zero, Act.put, List.setIfInBounds_toArray, List.set_cons_zero, List.set_cons_succ]
          -- 1: Op.move (Operand.tmp 2)
          refine' anyZ_pure (i := 1) (v := _) rfl (by rfl) (by kernel_rfl) (by kernel_rfl) (by kernel_rfl) hcl1 (fun _ _ _ h => h) (Or.inl ⟨by rfl, fun w _ => ?hy2⟩) (fun _ => hHeld) (fun hcl2 => ?ry2)
          case hy2 => (simp only [List.getElem_toArray, List.getElem_cons_succ, List.getElem_cons_zero]; first | (go_simp; with_reducible rfl) | (go_simp; done) | rfl)
          simp only [List.getElem_toArray, List.getElem_cons_succ, List.getElem_cons_zero, Act.put, List.setIfInBounds_toArray, List.set_cons_zero, List.set_cons_succ]
          -- 2: Op.move (Operand.tmp 0)
          refine' anyZ_pure (i := 2) (v := _) rfl (by rfl) (by kernel_rfl) (by kernel_rfl) (by kernel_rfl) hcl2 (fun _ _ _ h => h) (Or.inl ⟨by rfl, fun w _ => ?hy3⟩) (fun _ => hHeld) (fun hcl3 => ?ry3)
          case hy3 => (simp only [List.getElem_toArray, List.getElem_cons_succ, List.getElem_cons_zero]; first | (go_simp; with_reducible rfl) | (go_simp; done) | rfl)
          simp only [List.getElem_toArray, List.getElem_cons_succ, List.getElem_cons_zero, Act.put, List.setIfInBounds_toArray, List.set_cons_zero, List.set_cons_succ]
          -- 3: Op.move (Operand.tmp 3)
          refine' anyZ_pure (i := 3) (v := _) rfl (by rfl) (by kernel_rfl) (by kernel_rfl) (by kernel_rfl) hcl3 (fun _ _ _ h => h) (Or.inl ⟨by rfl, fun w _ => ?hy4⟩) (fun _ => hHeld) (fun hcl4 => ?ry4)
          case hy4 => (simp only [List.getElem_toArray, List.getElem_cons_succ, List.getElem_cons_zero]; first | (go_simp; with_reducible rfl) | (go_simp; done) | rfl)
          simp only [List.getElem_toArray, List.getElem_cons_succ, List.getElem_cons_zero, Act.put, List.setIfInBounds_toArray, List.set_cons_zero, List.set_cons_succ]
          -- 4: Op.move (Operand.tmp 0)
          refine' anyZ_pure (i := 4) (v := _) rfl (by rfl) (by kernel_rfl) (by kernel_rfl) (by kernel_rfl) hcl4 (fun _ _ _ h => h) (Or.inl ⟨by rfl, fun w _ => ?hy5⟩) (fun _ => hHeld) (fun hcl5 => ?ry5)
          case hy5 => (simp only [List.getElem_toArray, List.getElem_cons_succ, List.getElem_cons_zero]; first | (go_simp; with_reducible rfl) | (go_simp; done) | rfl)
          simp only [List.getElem_toArray, List.getElem_cons_succ, List.getElem_cons_zero, Act.put, List.setIfInBounds_toArray, List.set_cons_zero, List.set_cons_succ]
          -- 5: Op.move (Operand.tmp 3)
          refine' anyZ_pure (i := 5) (v := _) rfl (by rfl) (by kernel_rfl) (by kernel_rfl) (by kernel_rfl) hcl5 (fun _ _ _ h => h) (Or.inl ⟨by rfl, fun w _ => ?hy6⟩) (fun _ => hHeld) (fun hcl6 => ?ry6)
          case hy6 => (simp only [List.getElem_toArray, List.getElem_cons_succ, List.getElem_cons_zero]; first | (go_simp; with_reducible rfl) | (go_simp; done) | rfl)
          simp only [List.getElem_toArray, List.getElem_cons_succ, List.getElem_cons_zero, Act.put, List.setIfInBounds_toArray, List.set_cons_zero, List.set_cons_succ]
          -- 6: Op.indexAddr 27 (Operand.tmp 18) (Operand.tmp 19)
          refine' anyZ_pure (i := 6) (v := _) rfl (by rfl) (by kernel_rfl) (by kernel_rfl) (by kernel_rfl) hcl6 (fun _ _ _ h => h) (Or.inl ⟨by rfl, fun w _ => ?hy7⟩) (fun _ => hHeld) (fun hcl7 => ?ry7)
          case hy7 => (simp only [List.getElem_toArray, List.getElem_cons_succ, List.getElem_cons_zero]; first | (go_simp; with_reducible rfl) | (go_simp; done) | rfl)
          simp only [List.getElem_toArray, List.getElem_cons_succ, List.getElem_cons_zero, Act.put, List.setIfInBounds_toArray, List.set_cons_zero, List.set_cons_succ]
          -- 7: Op.load 26 (Operand.tmp 20)
          refine' anyZ_take (i := 7) (v := _) rfl (by rfl) (by kernel_rfl) (by kernel_rfl) (by kernel_rfl) hcl7 12 (by kernel_rfl) (by kernel_rfl) (fun _ _ _ h => h) (Or.inl ⟨by rfl, fun w hSw => ?hy8⟩) hHeld (fun hcl8 => ?ry8)
          case hy8 => (simp only [List.getElem_toArray, List.getElem_cons_succ, List.getElem_cons_zero]; obtain ⟨hS1, hS2⟩ := hSw; first | (go_simp; with_reducible rfl) | (go_simp; done) | rfl)
          simp only [List.getElem_toArray, List.getElem_cons_succ, List.getElem_cons_zero, Act.put, List.setIfInBounds_toArray, List.set_cons_zero, List.set_cons_succ]
          -- 8: Op.move (Operand.tmp 0)
          refine' anyZ_pure (i := 8) (v := _) rfl (by rfl) (by kernel_rfl) (by kernel_rfl) (by kernel_rfl) hcl8 (fun _ _ _ h => h) (Or.inl ⟨by rfl, fun w _ => ?hy9⟩) (fun _ => hHeld) (fun hcl9 => ?ry9)
          case hy9 => (simp only [List.getElem_toArray, List.getElem_cons_succ, List.getElem_cons_zero]; first | (go_simp; with_reducible rfl) | (go_simp; done) | rfl)
          simp only [List.getElem_toArray, List.getElem_cons_succ, List.getElem_cons_zero, Act.put, List.setIfInBounds_toArray, List.set_cons_zero, List.set_cons_succ]
          -- 9: Op.move (Operand.tmp 2)
          refine' anyZ_pure (i := 9) (v := _) rfl (by rfl) (by kernel_rfl) (by kernel_rfl) (by kernel_rfl) hcl9 (fun _ _ _ h => h) (Or.inl ⟨by rfl, fun w _ => ?hy10⟩) (fun _ => hHeld) (fun hcl10 => ?ry10)
          case hy10 => (simp only [List.getElem_toArray, List.getElem_cons_succ, List.getElem_cons_zero]; first | (go_simp; with_reducible rfl) | (go_simp; done) | rfl)
          simp only [List.getElem_toArray, List.getElem_cons_succ, List.getElem_cons_zero, Act.put, List.setIfInBounds_toArray, List.set_cons_zero, List.set_cons_succ]
          -- 10: Op.indexAddr 27 (Operand.tmp 22) (Operand.tmp 23)
          refine' anyZ_pure (i := 10) (v := _) rfl (by rfl) (by kernel_rfl) (by kernel_rfl) (by kernel_rfl) hcl10 (fun _ _ _ h => h) (Or.inl ⟨by rfl, fun w _ => ?hy11⟩) (fun _ => hHeld) (fun hcl11 => ?ry11)
          case hy11 => (simp only [List.getElem_toArray, List.getElem_cons_succ, List.getElem_cons_zero]; first | (go_simp; with_reducible rfl) | (go_simp; done) | rfl)
          simp only [List.getElem_toArray, List.getElem_cons_succ, List.getElem_cons_zero, Act.put, List.setIfInBounds_toArray, List.set_cons_zero, List.set_cons_succ]
          -- 11: Op.load 26 (Operand.tmp 24)
          refine' anyZ_take (i := 11) (v := _) rfl (by rfl) (by kernel_rfl) (by kernel_rfl) (by kernel_rfl) hcl11 12 (by kernel_rfl) (by kernel_rfl) (fun _ _ _ h => h) (Or.inl ⟨by rfl, fun w hSw => ?hy12⟩) hHeld (fun hcl12 => ?ry12)
          case hy12 => (simp only [List.getElem_toArray, List.getElem_cons_succ, List.getElem_cons_zero]; obtain ⟨hS1, hS2⟩ := hSw; first | (go_simp; with_reducible rfl) | (go_simp; done) | rfl)
          simp only [List.getElem_toArray, List.getElem_cons_succ, List.getElem_cons_zero, Act.put, List.setIfInBounds_toArray, List.set_cons_zero, List.set_cons_succ]
          clear hHeld
          refine anyZ_chain_at (by kernel_rfl) ?_
          simp only [List.drop_succ_cons, List.drop_zero]
          go_wp2_with fail
          go_roundw
          case rel =>
            have o2 := ((hin.out.2.1.set k y).set kk x)
            have o3 : Only wr ((wr.setCell ⟨g, k, none⟩ (.int .u64 y)).setCell ⟨g, kk, none⟩ (.int .u64 x)) (fun q => q = g) := (Only.setCell wr ⟨g, k, none⟩ _).trans (Only.setCell _ ⟨g, kk, none⟩ _) fun _ _ h => h
            refine ⟨k + 1, (m.set k y).set kk x, by omega, by have := HKK.out; omega, by go_num, ?_, Lib.hid ⟨hst.out, o2, (hin.out.2.2.trans o3 fun _ _ h => h).drew⟩⟩
            have := HKK.out
            congr 1
            omega
          case measure => simp [intOf]; omega
        · have d1 : decide ((k : Int) < (L : Int) - 1 - k) = false := decide_eq_false (by omega)
          go_wp2_with fail
          go_end0
          refine ⟨rfl, ?_, hin.out.2.2.mono fun i _ e => by rw [e]; rfl⟩
          rw [← revTo_done hin.out.1 (by rw [← HL.out]; omega)]
          exact hin.out.2.1
end Go.Proofs.Ytnbncjebmlicgaa
/- Plain: a walk over an arena; what an append of IDs does. -/
namespace Go.Proofs.Ytnbncjebmlicgaa
open Go Go.RowKit

/-- how much is left to walk at most -/
def todo (l : List (Nat × Nd)) (out : List Nat) : Nat := (l.map fun p => if p.1 ∈ out then 0 else p.2.kids.length + 1).sum
theorem todo_le {l : List (Nat × Nd)} {out : List Nat} (x : Nat) : todo l (out ++ [x]) ≤ todo l out := by
  unfold todo
  induction l with
  | nil => exact Nat.le_refl _
  | cons p r ih =>
    simp only [List.map_cons, List.sum_cons]
    have : (if p.1 ∈ out ++ [x] then 0 else p.2.kids.length + 1) ≤ (if p.1 ∈ out then 0 else p.2.kids.length + 1) := by
      by_cases h : p.1 ∈ out
      · rw [if_pos h, if_pos (by simp [h])]
        exact Nat.le_refl _
      · rw [if_neg h]
        split
        · exact Nat.zero_le _
        · exact Nat.le_refl _
    omega
theorem todo_step {l : List (Nat × Nd)} {out : List Nat} {x : Nat} {n : Nd} (hn : getA l x = some n) (hx : x ∉ out) : todo l (out ++ [x]) + n.kids.length + 1 ≤ todo l out := by
  induction l with
  | nil => cases hn
  | cons p r ih =>
    unfold getA at hn ih
    rw [List.find?_cons] at hn
    have hle := todo_le (l := r) (out := out) x
    unfold todo at ih hle ⊢
    simp only [List.map_cons, List.sum_cons]
    cases hp : p.1 == x with
    | true =>
      rw [hp] at hn
      have e1 : p.1 = x := by simpa using hp
      have e2 : p.2 = n := by simpa using hn
      rw [if_pos (by rw [e1]; simp), if_neg (by rw [e1]; exact hx), e2]
      omega
    | false =>
      rw [hp] at hn
      have e1 : p.1 ≠ x := by simpa using hp
      have := ih hn
      by_cases h : p.1 ∈ out
      · rw [if_pos h, if_pos (by simp [h])]
        omega
      · rw [if_neg h, if_neg (by simp [h, e1])]
        omega

/-- the walk: what has come; what waits, the next one ahead -/
def walkO (l : List (Nat × Nd)) (out st : List Nat) : List Nat := match st with
  | [] => out
  | x :: st => if h : (getA l x).isSome = true ∧ x ∉ out then walkO l (out ++ [x]) (((getA l x).get h.1).kids ++ st) else walkO l out st
termination_by todo l out + st.length
decreasing_by
  · have := todo_step (l := l) (out := out) (x := x) (n := (getA l x).get h.1) (Option.some_get h.1).symm h.2
    simp
    omega
  · simp
def walkOf (l : List (Nat × Nd)) (x : Nat) : List Nat := walkO l [] [x]

theorem walkO_nil (l : List (Nat × Nd)) (out : List Nat) : walkO l out [] = out := by rw [walkO]
theorem walkO_skip {l : List (Nat × Nd)} {out st : List Nat} {x : Nat} (h : getA l x = none ∨ x ∈ out) : walkO l out (x :: st) = walkO l out st := by
  rw [walkO, dif_neg]
  rintro ⟨h1, h2⟩
  rcases h with h | h
  · rw [h] at h1; cases h1
  · exact h2 h
theorem walkO_step {l : List (Nat × Nd)} {out st : List Nat} {x : Nat} {n : Nd} (hn : getA l x = some n) (h : x ∉ out) : walkO l out (x :: st) = walkO l (out ++ [x]) (n.kids ++ st) := by
  rw [walkO, dif_pos ⟨by rw [hn]; rfl, h⟩]
  congr 2
  simp [hn]
theorem walkO_pre (l : List (Nat × Nd)) (out st : List Nat) : ∃ r, walkO l out st = out ++ r := by
  induction h : todo l out + st.length using Nat.strongRecOn generalizing out st with
  | _ n ih =>
    subst h
    cases st with
    | nil => exact ⟨[], by rw [walkO_nil, List.append_nil]⟩
    | cons x st =>
      cases hn : getA l x with
      | none =>
        rw [walkO_skip (.inl hn)]
        exact ih _ (by simp) _ _ rfl
      | some n =>
        by_cases hx : x ∈ out
        · rw [walkO_skip (.inr hx)]
          exact ih _ (by simp) _ _ rfl
        · rw [walkO_step hn hx]
          have := todo_step hn hx
          obtain ⟨r, hr⟩ := ih _ (by simp; omega) (out ++ [x]) (n.kids ++ st) rfl
          exact ⟨x :: r, by rw [hr, List.append_assoc]; rfl⟩
theorem todo_max {l : List (Nat × Nd)} (ok : ∀ p ∈ l, p.2.kids.length ≤ 1000000) (out : List Nat) : todo l out ≤ l.length * 1000001 := by
  unfold todo
  induction l with
  | nil => exact Nat.le_refl _
  | cons p r ih =>
    simp only [List.map_cons, List.sum_cons, List.length_cons]
    have := ih fun q hq => ok q (List.mem_cons_of_mem _ hq)
    have h1 := ok p (List.mem_cons_self ..)
    have : (if p.1 ∈ out then 0 else p.2.kids.length + 1) ≤ 1000001 := by split <;> omega
    omega

/-- a map's entries are in its block -/
theorem MapU.uniq {P : Program} {k : TypeId} {w : World} {b : Nat} {l m : List (Nat × Value)} (h1 : MapU P k w b l) (h2 : MapU P k w b m) : l = m := by
  obtain ⟨es1, c1, hb1, F1, -, hD1⟩ := h1.1
  obtain ⟨es2, c2, hb2, F2, -, hD2⟩ := h2.1
  rw [hb1] at hb2
  cases hb2
  have hd : dU l = dU m := hD1.trans hD2.symm
  have h3 : entU l = entU m := by injection hd
  have h4 : ∀ (a c : List (Nat × Value)), entU a = entU c → a = c := by
    intro a
    induction a with
    | nil => intro c h; cases c with
      | nil => rfl
      | cons y r => cases h
    | cons y r ih => intro c h; cases c with
      | nil => cases h
      | cons y' r' =>
        have h5 := List.cons.inj h
        have h6 : kU y.1 = kU y'.1 ∧ (DataW.held y.2 : DataW Value) = .held y'.2 := by simpa using h5.1
        have h7 : y.1 = y'.1 := by have := h6.1; unfold kU at this; injection this with _ h8; omega
        have h8 : y.2 = y'.2 := by have := h6.2; injection this
        rw [ih r' h5.2, Prod.ext h7 h8]
  exact h4 _ _ h3
theorem U64_inj {a b : List Nat} (h : a.map U64 = b.map U64) : a = b := by
  have : ∀ x y : Nat, U64 x = U64 y → x = y := fun x y e => by unfold U64 at e; injection e with _ h; omega
  induction a generalizing b with
  | nil => cases b with
    | nil => rfl
    | cons y r => cases h
  | cons x r ih => cases b with
    | nil => cases h
    | cons y r' =>
      rw [List.map_cons, List.map_cons] at h
      have h5 := List.cons.inj h
      rw [this _ _ h5.1, ih h5.2]
theorem OwnIds.uniq {b1 b2 : Nat} {w : World} {v : Value} {l m : List Nat} (h1 : OwnIds b1 w v l) (h2 : OwnIds b2 w v m) : l = m := by
  apply U64_inj
  obtain ⟨a1, e1 | ⟨g, cap, cur, rfl, hb, hg, hc, hm, hs, ht⟩⟩ := h1
  · have hl : l = [] := List.length_eq_zero_iff.1 e1.2
    obtain ⟨a2, e2 | ⟨g, cap, cur, e, -⟩⟩ := h2
    · have hm : m = [] := List.length_eq_zero_iff.1 e2.2
      rw [hl, hm]
    · rw [e1.1] at e; cases e
  · obtain ⟨a2, e2 | ⟨g', cap', cur', e, hb', hg', hc', hm', hs', ht'⟩⟩ := h2
    · cases e2.1
    · injection e with e3 e4 e5
      injection e3 with e6
      injection e6 with e7
      subst e7
      rw [hg] at hg'
      cases hg'
      rw [e4] at ht
      rw [← ht, ← ht']

/-- the last one taken off -/
theorem OwnIds.cut {base : Nat} {w : World} {g n c : Nat} {l : List Nat} {x : Nat} (h : OwnIds base w (.slice (some ⟨g, 0, none⟩) n c) (l ++ [x])) : OwnIds base w (.slice (some ⟨g, 0, none⟩) l.length c) l := by
  obtain ⟨h1, h2 | ⟨g', cap, cur, e, hb, hg, hc, hm, hs, ht⟩⟩ := h
  · exact absurd h2.1 (by simp)
  · cases e
    refine ⟨by simp, .inr ⟨g, c, cur, rfl, hb, hg, by simp at hc; omega, hm, hs, ?_⟩⟩
    have h3 : (cur.toList.take ((l ++ [x]).length * 1)).take (l.length * 1) = ((l ++ [x]).map U64).take (l.length * 1) := by rw [ht]
    rw [List.take_take, Nat.min_eq_left (by simp)] at h3
    rw [h3]
    simp

/-- an append of IDs to a row of one's own, run -/
theorem run_app_ids {base : Nat} {w : World} {v y : Value} {xs ys : List Nat} (hv : OwnIds base w v xs) (hy : Ids w y ys) (ty : TypeId) (hb : base ≤ w.heap.size) (hbig : xs.length + ys.length ≤ 17000000000000) :
    ∃ v' w', (Builtin.append_ #[27, 27] ty #[v, y]).run Try.prog w = .ok v' w' ∧ OwnIds base w' v' (xs ++ ys) ∧ w.grownBy w' v.ownBlock ∧ Stays w v v' := by
  obtain ⟨a, c, rfl, hm, hc, hn, hl⟩ := hy.lies
  obtain ⟨i, z, hi, hz, hsz, hby, hzs⟩ := rowI.ex
  cases a with
  | none =>
    have hc0 := hn rfl
    have hys : ys = [] := List.length_eq_zero_iff.1 (by omega)
    subst hys
    subst hc0
    refine ⟨v, w, ?_, by rw [List.append_nil]; exact hv, ⟨rfl, rfl, rfl, Nat.le_refl _, fun _ _ _ => rfl⟩, .inl rfl⟩
    exact run_append_owned_none (P := Try.prog) (w := w) base 27 ty 26 i 1 rowI.ht hi v xs.length (xs.map U64) hv
  | some ad =>
    obtain ⟨v', w', hr, h2, h3, h4⟩ := run_append_own' (P := Try.prog) (w := w) base 27 ty 26 i z 1 8 rowI.ht hi hz hsz hby hzs rowI.pos v xs.length (xs.map U64) hv ad ys.length c (ys.map U64) (by simp) (fun j u hu => by
      rcases hl with h0 | ⟨g, o', ha, hr⟩
      · rw [h0] at hu; simp at hu
      · cases ha
        rw [Addr.add_mid]
        exact hr j u hu) (U64_one ys) (by unfold maxLen; omega) (by omega) hb
    refine ⟨v', w', hr, ?_, h3, h4⟩
    unfold OwnIds
    rw [List.length_append, List.map_append]
    exact h2

/-- an append whose run is known -/
theorem wpListIn_run {F : Fence} {n : Nat} {P : Program} {w : World} {ops : Array Oper} {rest : List Oper} {o : Oper} {a : Act} {Q : Exit → Act → World → Prop} (hg : o.guard = none) (s x : Operand) (t : TypeId) (ho : o.op = .call { callee := .builtin .append, args := #[s, x], argTypes := #[t, t] })
    (v y v' : Value) (w' : World) (hs : a.eval s = v) (hx : a.eval x = y) (hrun : (Builtin.append_ #[t, t] o.type #[v, y]).run P w = .ok v' w') (h : wpListIn F n P ops Q rest (a.put o.dst v') w') : wpListIn F n P ops Q (o :: rest) a w := by
  refine wpListIn_plain hg fun K hK' => ?_
  unfold Oper.wpIn
  refine ⟨?_, ?_⟩
  · simp [Oper.about, ho, resolve, Target.leads, Sem.run_pure]
  · rw [Oper.semAt_plain F _ _ (by rw [ho]; intro c hc'; cases hc')]
    simp [execOp, ho, resolve, invoke, builtin, hs, hx, hrun, Result.andThen]
    exact hK' _ _ h
end Go.Proofs.Ytnbncjebmlicgaa
/- Sorting rows of IDs: what such a row is; less. -/
namespace Go.Proofs.Ytnbncjebmlicgaa
open Go.RowKit Go.Sort

def ltN (x y : Nat) : Bool := decide (x < y)
theorem swo_ltN : SWO ltN where
  irrefl := fun x => decide_eq_false (Nat.lt_irrefl x)
  trans := fun x y z h1 h2 => decide_eq_true (Nat.lt_trans (of_decide_eq_true h1) (of_decide_eq_true h2))
  ntrans := fun x y z h1 h2 => decide_eq_false (by have := of_decide_eq_false h1; have := of_decide_eq_false h2; omega)

/-- a row of one's own that is sorted in place -/
def SRow (B : Nat) (w : World) (g n c : Nat) (d : Array Nat) : Prop := OwnIds B w (.slice (some ⟨g, 0, none⟩) n c) d.toList ∧ ∀ x ∈ d.toList, x < 18446744073709551616
theorem SRow.size {B : Nat} {w : World} {g n c : Nat} {d : Array Nat} (h : SRow B w g n c d) : d.size = n ∧ n ≤ maxLen := by
  have := h.1.len_le
  simp at this
  omega
theorem SRow.get {B : Nat} {w : World} {g n c : Nat} {d : Array Nat} (h : SRow B w g n c d) {i : Nat} (hi : i < n) : w.cell? ⟨g, i, none⟩ = some (.int .u64 d[i]!) ∧ w.frozen? ⟨g, i, none⟩ = false := by
  refine h.1.cell ?_
  have hs := h.size.1
  rw [Array.getElem?_toList, getElem!_pos d i (by omega)]
  exact Array.getElem?_eq_getElem (by omega)
theorem SRow.lt {B : Nat} {w : World} {g n c : Nat} {d : Array Nat} (h : SRow B w g n c d) {i : Nat} (hi : i < n) : d[i]! < 18446744073709551616 := by
  have hs := h.size.1
  refine h.2 _ ?_
  rw [getElem!_pos d i (by omega)]
  exact Array.getElem_mem_toList ..
theorem toList_swp (d : Array Nat) (i j : Nat) : (swp d i j).toList = (d.toList.set i d[j]!).set j d[i]! := by
  unfold swp
  simp
/-- two of them change places -/
theorem SRow.swp {B : Nat} {w : World} {g n c : Nat} {d : Array Nat} (h : SRow B w g n c d) {i j : Nat} (hi : i < n) (hj : j < n) : SRow B ((w.setCell ⟨g, i, none⟩ (.int .u64 d[j]!)).setCell ⟨g, j, none⟩ (.int .u64 d[i]!)) g n c (swp d i j) := by
  refine ⟨?_, fun x hx => ?_⟩
  · rw [toList_swp]
    exact (h.1.set i _).set j _
  · rw [toList_swp] at hx
    rcases List.mem_or_eq_of_mem_set hx with hx | rfl
    · rcases List.mem_or_eq_of_mem_set hx with hx | rfl
      · exact h.2 x hx
      · exact h.lt hj
    · exact h.lt hi
theorem SRow.drew {B : Nat} {w : World} {g n c : Nat} {d : Array Nat} (h : SRow B w g n c d) : SRow B w.drew g n c d := h
theorem swp_only (w : World) (g i j : Nat) (u v : Value) : Only w ((w.setCell ⟨g, i, none⟩ u).setCell ⟨g, j, none⟩ v) (fun q => q = g) :=
  (Only.setCell w ⟨g, i, none⟩ _).trans (Only.setCell _ ⟨g, j, none⟩ _) fun _ _ h => h
theorem one_only {a b c : World} {g : Nat} (h : Only a b (fun q => q = g)) (k : Only b c (fun q => q = g)) : Only a c (fun q => q = g) := h.trans k fun _ _ h => h

set_option maxRecDepth 10000 in
theorem isnan_any (x : Nat) (w : World) : Calls Try.prog 94 #[.int .u64 x] w fun e w' => e = .returned (.bool false) ∧ w' = w := by
  go_enter Try.func94, Try.ntmps94
  go_wp2
  go_ret
  exact ⟨rfl, rfl⟩
set_option maxRecDepth 10000 in
theorem less_any (x y : Nat) (w : World) : Calls Try.prog 84 #[.int .u64 x, .int .u64 y] w fun e w' => e = .returned (.bool (ltN x y)) ∧ w' = w := by
  go_enter Try.func84, Try.ntmps84
  go_wp2_with (refine (isnan_any x w).mono ?_; rintro e w1 ⟨rfl, rfl⟩)
  go_ret
  exact ⟨by unfold ltN; rfl, rfl⟩
end Go.Proofs.Ytnbncjebmlicgaa
/- The sort's scans, plainly: one step each; what stands between them. -/
namespace Go.Proofs.Ytnbncjebmlicgaa
open Go.RowKit Go.Sort

theorem up_go {p : Nat → Bool} {d : Array Nat} {j k x : Nat} (h : k ≤ j) (hx : x = d[k]!) (hp : p x = true) : scanUp p d j k = scanUp p d j (k + 1) := by
  conv => lhs; rw [scanUp, if_pos (by rw [← hx, hp, Bool.and_true]; exact decide_eq_true h)]
theorem up_stop {p : Nat → Bool} {d : Array Nat} {j k x : Nat} (hx : x = d[k]!) (hp : p x = false) : scanUp p d j k = k := by
  rw [scanUp, if_neg (by rw [← hx, hp, Bool.and_false]; exact Bool.false_ne_true)]
theorem up_end {p : Nat → Bool} {d : Array Nat} {j k : Nat} (h : ¬ k ≤ j) : scanUp p d j k = k := by
  rw [scanUp, if_neg (by rw [decide_eq_false h, Bool.false_and]; exact Bool.false_ne_true)]
theorem down_go {p : Nat → Bool} {d : Array Nat} {i k x : Nat} (h : i ≤ k + 1) (hx : x = d[k + 1]!) (hp : p x = true) : scanDown p d i (k + 1) = scanDown p d i k := by
  conv => lhs; rw [scanDown, if_pos (by rw [← hx, hp, Bool.and_true]; exact decide_eq_true h)]
theorem down_stop {p : Nat → Bool} {d : Array Nat} {i k x : Nat} (hx : x = d[k]!) (hp : p x = false) : scanDown p d i k = k := by
  cases k with
  | zero => rfl
  | succ k => rw [scanDown, if_neg (by rw [← hx, hp, Bool.and_false]; exact Bool.false_ne_true)]
theorem down_end {p : Nat → Bool} {d : Array Nat} {i k : Nat} (h : ¬ i ≤ k) : scanDown p d i k = k := by
  cases k with
  | zero => rfl
  | succ k => rw [scanDown, if_neg (by rw [decide_eq_false h, Bool.false_and]; exact Bool.false_ne_true)]
/-- where two scans against each other stand -/
theorem scans {p q : Nat → Bool} (hq : ∀ x, q x = !p x) {d : Array Nat} {i j I J : Nat} (hI : scanUp p d j i = I) (hJ : scanDown q d I j = J) (hi : 0 < i) (hij : i ≤ j + 1) : i ≤ I ∧ I ≤ j + 1 ∧ J ≤ j ∧ I ≤ J + 1 ∧ (¬ J < I → I < J) := by
  obtain ⟨u1, u2, -, u4⟩ := scanUp_spec p d j _ i rfl
  rw [hI] at u1 u2 u4
  obtain ⟨v1, v2, -, v4⟩ := scanDown_spec q d I j
  rw [hJ] at v1 v2 v4
  have hu := u2 hij
  refine ⟨u1, hu, v1, v2 hu, fun h => ?_⟩
  have f1 := u4 (by omega)
  have f2 := v4 (by omega) (by omega)
  rw [hq] at f2
  rcases Nat.lt_or_ge I J with h' | h'
  · exact h'
  · have e : I = J := by omega
    rw [← e, f1] at f2
    cases f2
theorem part_stop {a i j I J pv : Nat} {d : Array Nat} (hpv : d[a]! = pv) (hI : scanUp (fun x => ltN x pv) d j i = I) (hJ : scanDown (fun x => !ltN x pv) d I j = J) (h : J < I) : partLoop ltN a i j d = (J, d) := by
  rw [partLoop_eq, hpv, hI, hJ, if_pos h]
theorem part_go {a i j I J pv : Nat} {d : Array Nat} (hpv : d[a]! = pv) (hI : scanUp (fun x => ltN x pv) d j i = I) (hJ : scanDown (fun x => !ltN x pv) d I j = J) (h : ¬ J < I) : partLoop ltN a i j d = partLoop ltN a (I + 1) (J - 1) (swp d I J) := by
  conv => lhs; rw [partLoop_eq, hpv, hI, hJ, if_neg h]
theorem parteq_stop {a i j I J pv : Nat} {d : Array Nat} (hpv : d[a]! = pv) (hI : scanUp (fun x => !ltN pv x) d j i = I) (hJ : scanDown (fun x => ltN pv x) d I j = J) (h : J < I) : partEqLoop ltN a i j d = (I, d) := by
  rw [partEqLoop_eq, hpv, hI, hJ, if_pos h]
theorem parteq_go {a i j I J pv : Nat} {d : Array Nat} (hpv : d[a]! = pv) (hI : scanUp (fun x => !ltN pv x) d j i = I) (hJ : scanDown (fun x => ltN pv x) d I j = J) (h : ¬ J < I) : partEqLoop ltN a i j d = partEqLoop ltN a (I + 1) (J - 1) (swp d I J) := by
  conv => lhs; rw [partEqLoop_eq, hpv, hI, hJ, if_neg h]
/-- the first round of partition -/
theorem part_first {a b p I J pv : Nat} {d D : Array Nat} (hD : D = swp d a p) (hpv : D[a]! = pv) (hI : scanUp (fun x => ltN x pv) D (b - 1) (a + 1) = I) (hJ : scanDown (fun x => !ltN x pv) D I (b - 1) = J) :
    partition ltN d a b p = if J < I then (J, true, swp D J a) else ((partLoop ltN a (I + 1) (J - 1) (swp D I J)).1, false, swp (partLoop ltN a (I + 1) (J - 1) (swp D I J)).2 (partLoop ltN a (I + 1) (J - 1) (swp D I J)).1 a) := by
  unfold partition
  simp only [← hD, hpv, hI, hJ, gt_iff_lt]
/-- the scan of what is sorted already -/
theorem ss_range (b : Nat) (d : Array Nat) : ∀ (n k : Nat), b - k = n → k ≤ b → k ≤ scanSorted ltN d b k ∧ scanSorted ltN d b k ≤ b := by
  intro n
  induction n with
  | zero =>
    intro k hn hk
    rw [scanSorted, if_neg (by rw [decide_eq_false (by omega), Bool.false_and]; exact Bool.false_ne_true)]
    exact ⟨Nat.le_refl _, hk⟩
  | succ n ih =>
    intro k hn hk
    rw [scanSorted]
    split
    · have := ih (k + 1) (by omega) (by omega)
      omega
    · exact ⟨Nat.le_refl _, hk⟩
theorem ss_go {d : Array Nat} {b k x y : Nat} (h : k < b) (hx : x = d[k]!) (hy : y = d[k - 1]!) (hp : ltN x y = false) : scanSorted ltN d b k = scanSorted ltN d b (k + 1) := by
  conv => lhs; rw [scanSorted, if_pos (by rw [← hx, ← hy, hp, Bool.not_false, Bool.and_true]; exact decide_eq_true h)]
theorem ss_stop {d : Array Nat} {b k x y : Nat} (hx : x = d[k]!) (hy : y = d[k - 1]!) (hp : ltN x y = true) : scanSorted ltN d b k = k := by
  rw [scanSorted, if_neg (by rw [← hx, ← hy, hp, Bool.not_true, Bool.and_false]; exact Bool.false_ne_true)]
theorem ss_end {d : Array Nat} {b k : Nat} (h : ¬ k < b) : scanSorted ltN d b k = k := by
  rw [scanSorted, if_neg (by rw [decide_eq_false h, Bool.false_and]; exact Bool.false_ne_true)]
theorem sd_go {d : Array Nat} {m x y : Nat} (hx : x = d[m + 1]!) (hy : y = d[m]!) (hp : ltN x y = true) : shiftDown ltN (m + 1) d = shiftDown ltN m (swp d (m + 1) m) := by
  conv => lhs; rw [shiftDown, if_neg (by rw [← hx, ← hy, hp]; exact Bool.false_ne_true)]
theorem sd_stop {d : Array Nat} {m x y : Nat} (hx : x = d[m + 1]!) (hy : y = d[m]!) (hp : ltN x y = false) : shiftDown ltN (m + 1) d = d := by
  rw [shiftDown, if_pos (by rw [← hx, ← hy, hp]; rfl)]
theorem su_go {d : Array Nat} {b q m x y : Nat} (h : q < b) (hq : q = m + 1) (hx : x = d[q]!) (hy : y = d[m]!) (hp : ltN x y = true) : shiftUp ltN b q d = shiftUp ltN b (q + 1) (swp d q m) := by
  have e : q - 1 = m := by omega
  conv => lhs; rw [shiftUp, if_pos h, e, ← hx, ← hy, if_neg (by rw [hp]; exact Bool.false_ne_true)]
theorem su_stop {d : Array Nat} {b q m x y : Nat} (hq : q = m + 1) (hx : x = d[q]!) (hy : y = d[m]!) (hp : ltN x y = false) : shiftUp ltN b q d = d := by
  have e : q - 1 = m := by omega
  rw [shiftUp, e, ← hx, ← hy, hp]
  simp
theorem su_end {d : Array Nat} {b q : Nat} (h : ¬ q < b) : shiftUp ltN b q d = d := by
  rw [shiftUp, if_neg h]
end Go.Proofs.Ytnbncjebmlicgaa
/- Walks: bits.Len64, bits.Len, slices.nextPowerOfTwo. -/
namespace Go.Proofs.Ytnbncjebmlicgaa
open Go.RowKit Go.Sort

theorem tab_at (y : Nat) (hy : y < 256) (h : y < Lib.len8tab.size) : ((Lib.len8tab[y]'h).toNat : Int) = (Lib.bitLen y : Int) := by
  have e := Lib.len8_of (y : Int) (by omega) (by omega)
  rw [Int.toNat_natCast] at e
  rw [← e]
  unfold Lib.len8
  rw [Int.toNat_natCast, getElem?_pos Lib.len8tab y h]
  rfl
theorem len_le8 (y : Nat) (hy : y < 256) : Lib.bitLen y ≤ 8 := Lib.bitLen_le8 ⟨y, hy⟩
theorem wrap_sum (k a b : Nat) (hk : k ≤ 56) (ha : a ≤ 8) (hb : b = k + a) : RowKit.wrap64 ((k : Int) + RowKit.wrap64 (a : Int)) = (b : Int) := by
  unfold RowKit.wrap64
  omega
theorem wrap_two (a : Nat) (ha : a ≤ 8) : RowKit.wrap64 (RowKit.wrap64 (a : Int)) = (a : Int) := by
  unfold RowKit.wrap64
  omega
theorem wrap_1 (a : Nat) (ha : a ≤ 8) : RowKit.wrap64 (a : Int) = (a : Int) := by
  unfold RowKit.wrap64
  omega

set_option linter.unusedSimpArgs false in
set_option maxRecDepth 1000000 in
set_option maxHeartbeats 32000000 in
theorem len64_any (x : Nat) (w : World) (hx : x < 4294967296) :
    Calls Try.prog 88 #[.int .u64 x] w fun e w' => e = .returned (.int .i64 (Lib.bitLen x)) ∧ w' = w := by
  have a0 : decide ((4294967296 : Int) ≤ (x : Int)) = false := decide_eq_false (by omega)
  have a1 : decide (4294967296 ≤ x) = false := decide_eq_false (by omega)
  by_cases h16 : 65536 ≤ x
  · have b0 : decide ((65536 : Int) ≤ (x : Int)) = true := decide_eq_true (by omega)
    have b1 : decide (65536 ≤ x) = true := decide_eq_true h16
    obtain ⟨y, hy⟩ : ∃ y, y = x / 65536 := ⟨_, rfl⟩
    have hyi : (x : Int) / 65536 = (y : Int) := by omega
    have HS := Lib.hid (Lib.bitLen_shift16 x h16 (by omega))
    rw [← hy] at HS
    have hyl : y < 65536 := by omega
    clear hy h16
    by_cases h8 : 256 ≤ y
    · have c0 : decide ((256 : Int) ≤ (y : Int)) = true := decide_eq_true (by omega)
      have c1 : decide (256 ≤ y) = true := decide_eq_true h8
      obtain ⟨z, hz⟩ : ∃ z, z = y / 256 := ⟨_, rfl⟩
      have hzi : (y : Int) / 256 = (z : Int) := by omega
      have HS2 := Lib.hid (Lib.bitLen_shift8 y h8 (by omega))
      rw [← hz] at HS2
      have hzl : z < 256 := by omega
      clear hz h8
      go_enter Try.func88, Try.ntmps88
      go_wp2_with fail
      go_ret
      refine ⟨congrArg Ending.returned (congrArg (Value.int IntKind.i64) ?_), rfl⟩
      have e := tab_at z hzl hzl
      refine Eq.trans (congrArg (fun t : Int => RowKit.wrap64 (24 + RowKit.wrap64 t)) e) ?_
      exact wrap_sum 24 _ _ (by decide) (len_le8 z hzl) (by rw [HS.out, HS2.out]; omega)
    · have c0 : decide ((256 : Int) ≤ (y : Int)) = false := decide_eq_false (by omega)
      have c1 : decide (256 ≤ y) = false := decide_eq_false h8
      have hzl : y < 256 := by omega
      go_enter Try.func88, Try.ntmps88
      go_wp2_with fail
      go_ret
      refine ⟨congrArg Ending.returned (congrArg (Value.int IntKind.i64) ?_), rfl⟩
      have e := tab_at y hzl hzl
      refine Eq.trans (congrArg (fun t : Int => RowKit.wrap64 (16 + RowKit.wrap64 t)) e) ?_
      exact wrap_sum 16 _ _ (by decide) (len_le8 y hzl) HS.out
  · have b0 : decide ((65536 : Int) ≤ (x : Int)) = false := decide_eq_false (by omega)
    have b1 : decide (65536 ≤ x) = false := decide_eq_false h16
    by_cases h8 : 256 ≤ x
    · have c0 : decide ((256 : Int) ≤ (x : Int)) = true := decide_eq_true (by omega)
      have c1 : decide (256 ≤ x) = true := decide_eq_true h8
      obtain ⟨z, hz⟩ : ∃ z, z = x / 256 := ⟨_, rfl⟩
      have hzi : (x : Int) / 256 = (z : Int) := by omega
      have HS2 := Lib.hid (Lib.bitLen_shift8 x h8 (by omega))
      rw [← hz] at HS2
      have hzl : z < 256 := by omega
      clear hz h8
      go_enter Try.func88, Try.ntmps88
      go_wp2_with fail
      go_ret
      refine ⟨congrArg Ending.returned (congrArg (Value.int IntKind.i64) ?_), rfl⟩
      have e := tab_at z hzl hzl
      refine Eq.trans (congrArg (fun t : Int => RowKit.wrap64 (8 + RowKit.wrap64 t)) e) ?_
      exact wrap_sum 8 _ _ (by decide) (len_le8 z hzl) HS2.out
    · have c0 : decide ((256 : Int) ≤ (x : Int)) = false := decide_eq_false (by omega)
      have c1 : decide (256 ≤ x) = false := decide_eq_false h8
      have hzl : x < 256 := by omega
      go_enter Try.func88, Try.ntmps88
      go_wp2_with fail
      go_ret
      refine ⟨congrArg Ending.returned (congrArg (Value.int IntKind.i64) ?_), rfl⟩
      have e := tab_at x hzl hzl
      refine Eq.trans (congrArg (fun t : Int => RowKit.wrap64 (RowKit.wrap64 t)) e) ?_
      exact wrap_two _ (len_le8 x hzl)
end Go.Proofs.Ytnbncjebmlicgaa
/- Walks: order2Ordered, medianOrdered, medianAdjacentOrdered, choosePivotOrdered: the pivot lies in range; nothing of the row is turned. -/
namespace Go.Proofs.Ytnbncjebmlicgaa
open Go.RowKit Go.Sort

theorem SRow.keep {B : Nat} {w w' : World} {g n c : Nat} {d : Array Nat} {S : Nat → Prop} (h : SRow B w g n c d) (ho : Only w w' S) (hs : ¬ S g) : SRow B w' g n c d :=
  ⟨own_only h.1 ho fun q hq => by cases hq; exact hs, h.2⟩
/-- a counter in a block of its own -/
structure Cnt (w : World) (q s : Nat) : Prop where
  cell : w.cell? ⟨q, 0, none⟩ = some (.int .i64 s)
  fz : w.frozen? ⟨q, 0, none⟩ = false
theorem set_cell_same (w : World) (q : Nat) (u v : Value) (hc : w.cell? ⟨q, 0, none⟩ = some u) : (w.setCell ⟨q, 0, none⟩ v).cell? ⟨q, 0, none⟩ = some v := by
  have := hc
  go_simp

set_option maxRecDepth 20000 in
set_option maxHeartbeats 3200000 in
theorem order2_any (B g n c q a b s : Nat) (d : Array Nat) (w : World) (h : SRow B w g n c d) (hc : Cnt w q s) (ha : a < n) (hb : b < n) (hs : s < 1000) (hn : n ≤ 1000000000) :
    Calls Try.prog 95 #[.slice (some ⟨g, 0, none⟩) n c, .int .i64 a, .int .i64 b, .pointer (some ⟨q, 0, none⟩)] w fun e w' => ∃ x y s' : Nat, e = .returned (.tuple #[.int .i64 x, .int .i64 y]) ∧ ((x = a ∧ y = b) ∨ (x = b ∧ y = a)) ∧ s' ≤ s + 1 ∧ Cnt w' q s' ∧ Only w w' (fun k => k = q) := by
  have aa : (0 : Int) ≤ (a : Int) := by omega
  have ab : (a : Int) < (n : Int) := by omega
  have ba : (0 : Int) ≤ (b : Int) := by omega
  have bb : (b : Int) < (n : Int) := by omega
  have ae : IntKind.i64.wrap (a : Int) = (a : Int) := by rw [IntKind.wrap_i64]; omega
  have be : IntKind.i64.wrap (b : Int) = (b : Int) := by rw [IntKind.wrap_i64]; omega
  obtain ⟨ka, fa⟩ := h.get (i := a) (by omega)
  obtain ⟨kb, fb⟩ := h.get (i := b) (by omega)
  obtain ⟨x, hx⟩ : ∃ x, x = d[a]! := ⟨_, rfl⟩
  obtain ⟨y, hy⟩ : ∃ x, x = d[b]! := ⟨_, rfl⟩
  rw [← hx] at ka
  rw [← hy] at kb
  clear hx hy
  have kc := hc.cell
  have fc := hc.fz
  go_enter Try.func95, Try.ntmps95
  go_wp2_with fail
  go_quiet ((go_at_call 84; with_reducible exact Calls.quiet_of_same (less_any y x _)))
  have kc2 : (w.drewN nq).cell? ⟨q, 0, none⟩ = some (.int .i64 s) := kc
  have fc2 : (w.drewN nq).frozen? ⟨q, 0, none⟩ = false := fc
  have HO := Lib.hid ((Only.refl w (fun k => k = q)).drewN nq)
  clear ka fa kb fb kc fc hc h
  generalize w.drewN nq = W at *
  cases hxy : ltN y x
  · go_wp2_with fail
    go_ret2
    exact ⟨a, b, s, rfl, .inl ⟨rfl, rfl⟩, by omega, ⟨kc2, fc2⟩, HO.out⟩
  · have hw : IntKind.i64.wrap ((s : Int) + 1) = (s : Int) + 1 := by rw [IntKind.wrap_i64]; omega
    have HW := Lib.hid (set_cell_same W q _ (.int .i64 ((s + 1 : Nat) : Int)) kc2)
    have HF : Hid ((W.setCell ⟨q, 0, none⟩ (.int .i64 ((s + 1 : Nat) : Int))).frozen? ⟨q, 0, none⟩ = false) := Lib.hid (by have := fc2; go_simp)
    have HO2 := Lib.hid (HO.out.trans (Only.setCell W ⟨q, 0, none⟩ (.int .i64 ((s + 1 : Nat) : Int))) fun _ _ h => h)
    go_wp2_with fail
    go_ret2
    exact ⟨b, a, s + 1, rfl, .inr ⟨rfl, rfl⟩, by omega, ⟨HW.out, HF.out⟩, HO2.out⟩

set_option maxRecDepth 20000 in
set_option maxHeartbeats 3200000 in
theorem median_any (B g n c q a b m s : Nat) (d : Array Nat) (w : World) (h : SRow B w g n c d) (hq : q ≠ g) (hc : Cnt w q s) (ha : a < n) (hb : b < n) (hm : m < n) (hs : s < 900) (hn : n ≤ 1000000000) :
    Calls Try.prog 93 #[.slice (some ⟨g, 0, none⟩) n c, .int .i64 a, .int .i64 b, .int .i64 m, .pointer (some ⟨q, 0, none⟩)] w fun e w' => ∃ x s' : Nat, e = .returned (.int .i64 x) ∧ (x = a ∨ x = b ∨ x = m) ∧ s' ≤ s + 3 ∧ Cnt w' q s' ∧ Only w w' (fun k => k = q) := by
  go_enter Try.func93, Try.ntmps93
  go_wp2_with fail
  refine (order2_any B g n c q a b s d w h hc ha hb (by omega) hn).mono ?_
  rintro e w1 ⟨x1, y1, s1, rfl, h1, hs1, hc1, ho1⟩
  have r1 := h.keep ho1 (fun e => hq e.symm)
  go_wp2_with fail
  refine (order2_any B g n c q y1 m s1 d w1 r1 hc1 (by omega) hm (by omega) hn).mono ?_
  rintro e w2 ⟨x2, y2, s2, rfl, h2, hs2, hc2, ho2⟩
  have r2 := r1.keep ho2 (fun e => hq e.symm)
  go_wp2_with fail
  refine (order2_any B g n c q x1 x2 s2 d w2 r2 hc2 (by omega) (by omega) (by omega) hn).mono ?_
  rintro e w3 ⟨x3, y3, s3, rfl, h3, hs3, hc3, ho3⟩
  go_wp2_with fail
  go_ret
  exact ⟨y3, s3, rfl, by omega, by omega, hc3, (ho1.trans ho2 fun _ _ h => h).trans ho3 fun _ _ h => h⟩

set_option maxRecDepth 20000 in
theorem medadj_any (B g n c q a s : Nat) (d : Array Nat) (w : World) (h : SRow B w g n c d) (hq : q ≠ g) (hc : Cnt w q s) (ha : 1 ≤ a) (hb : a + 1 < n) (hs : s < 900) (hn : n ≤ 1000000000) :
    Calls Try.prog 92 #[.slice (some ⟨g, 0, none⟩) n c, .int .i64 a, .pointer (some ⟨q, 0, none⟩)] w fun e w' => ∃ x s' : Nat, e = .returned (.int .i64 x) ∧ (a ≤ x + 1 ∧ x ≤ a + 1) ∧ s' ≤ s + 3 ∧ Cnt w' q s' ∧ Only w w' (fun k => k = q) := by
  obtain ⟨a0, h0⟩ : ∃ a0, a0 = a - 1 := ⟨_, rfl⟩
  obtain ⟨a1, h1⟩ : ∃ a1, a1 = a + 1 := ⟨_, rfl⟩
  have h0i : (a : Int) - 1 = (a0 : Int) := by omega
  have h1i : (a : Int) + 1 = (a1 : Int) := by omega
  have e0 : IntKind.i64.wrap (a0 : Int) = (a0 : Int) := by rw [IntKind.wrap_i64]; omega
  have e1 : IntKind.i64.wrap (a1 : Int) = (a1 : Int) := by rw [IntKind.wrap_i64]; omega
  have H0 := Lib.hid h0
  have H1 := Lib.hid h1
  clear h0 h1
  go_enter Try.func92, Try.ntmps92
  go_wp2_with fail
  refine (median_any B g n c q a0 a a1 s d w h hq hc (by have := H0.out; omega) (by omega) (by have := H1.out; omega) hs hn).mono ?_
  rintro e w1 ⟨x, s1, rfl, hx, hs1, hc1, ho1⟩
  go_wp2_with fail
  go_ret
  exact ⟨x, s1, rfl, by have := H0.out; have := H1.out; omega, hs1, hc1, ho1⟩
end Go.Proofs.Ytnbncjebmlicgaa
/- Walk: choosePivotOrdered: the pivot lies in range. -/
namespace Go.Proofs.Ytnbncjebmlicgaa
open Go.RowKit Go.Sort

theorem cnt_new (w : World) : Cnt (w.alloc (.cells #[.int .i64 0] 3)) w.heap.size 0 := by
  constructor
  · go_simp
  · go_simp

set_option linter.unusedSimpArgs false in
set_option maxRecDepth 20000 in
set_option maxHeartbeats 6400000 in
theorem choose_any (B g n c a b : Nat) (d : Array Nat) (w : World) (h : SRow B w g n c d) (hab : a + 8 ≤ b) (hbn : b ≤ n) (hn : n ≤ 1000000000) :
    Calls Try.prog 81 #[.slice (some ⟨g, 0, none⟩) n c, .int .i64 a, .int .i64 b] w fun e w' => ∃ p t : Nat, e = .returned (.tuple #[.int .i64 p, .int .i64 t]) ∧ a ≤ p ∧ p < b ∧ t ≤ 2 ∧ Below w.heap.size w w' := by
  obtain ⟨l, hl⟩ : ∃ l, l = b - a := ⟨_, rfl⟩
  have hli : (b : Int) - (a : Int) = (l : Int) := by omega
  obtain ⟨q4, hq4⟩ : ∃ q, q = l / 4 := ⟨_, rfl⟩
  have hqi : (l : Int).tdiv 4 = (q4 : Int) := by
    rw [Int.tdiv_eq_ediv_of_nonneg (by omega)]
    omega
  obtain ⟨i, hi⟩ : ∃ i, i = a + q4 := ⟨_, rfl⟩
  obtain ⟨j, hj⟩ : ∃ j, j = a + q4 * 2 := ⟨_, rfl⟩
  obtain ⟨k, hk⟩ : ∃ k, k = a + q4 * 3 := ⟨_, rfl⟩
  obtain ⟨q8, hq8⟩ : ∃ q, q = q4 * 2 := ⟨_, rfl⟩
  obtain ⟨q12, hq12⟩ : ∃ q, q = q4 * 3 := ⟨_, rfl⟩
  have m1 : (q4 : Int) * 1 = (q4 : Int) := by omega
  have m2 : (q4 : Int) * 2 = (q8 : Int) := by omega
  have m3 : (q4 : Int) * 3 = (q12 : Int) := by omega
  have s1 : (a : Int) + (q4 : Int) = (i : Int) := by omega
  have s2 : (a : Int) + (q8 : Int) = (j : Int) := by omega
  have s3 : (a : Int) + (q12 : Int) = (k : Int) := by omega
  have h8 : decide ((8 : Int) ≤ (l : Int)) = true := decide_eq_true (by omega)
  have h8n : decide (8 ≤ l) = true := decide_eq_true (by omega)
  have wl : IntKind.i64.wrap (l : Int) = (l : Int) := by rw [IntKind.wrap_i64]; omega
  have wi : IntKind.i64.wrap (i : Int) = (i : Int) := by rw [IntKind.wrap_i64]; omega
  have wj : IntKind.i64.wrap (j : Int) = (j : Int) := by rw [IntKind.wrap_i64]; omega
  have wk : IntKind.i64.wrap (k : Int) = (k : Int) := by rw [IntKind.wrap_i64]; omega
  have w4 : IntKind.i64.wrap (q4 : Int) = (q4 : Int) := by rw [IntKind.wrap_i64]; omega
  have w8 : IntKind.i64.wrap (q8 : Int) = (q8 : Int) := by rw [IntKind.wrap_i64]; omega
  have w12 : IntKind.i64.wrap (q12 : Int) = (q12 : Int) := by rw [IntKind.wrap_i64]; omega
  have HB : Hid (2 ≤ q4 ∧ i = a + q4 ∧ j = a + q4 * 2 ∧ k = a + q4 * 3 ∧ q4 * 4 ≤ l ∧ l = b - a ∧ (50 ≤ l → 12 ≤ q4)) := Lib.hid ⟨by omega, hi, hj, hk, by omega, hl, by omega⟩
  have HNEW := Lib.hid (cnt_new w)
  have HB0 : Hid (Below w.heap.size w (w.alloc (.cells #[.int .i64 0] 3))) := Lib.hid (bal (bre w) _)
  have HR0 := Lib.hid (h.keep (Only.of_below HB0.out (fun _ => False)) id)
  have hg : w.heap.size ≠ g := by have := h.1.len_le; omega
  obtain ⟨q, hq⟩ : ∃ q, q = w.heap.size := ⟨_, rfl⟩
  have HQ := Lib.hid hq
  rw [← hq] at hg HNEW
  have HG := Lib.hid hg
  clear h hl hq4 hi hj hk hq8 hq12 hq hg
  go_enter Try.func81, Try.ntmps81
  go_upto_if 32 with fail
  rw [← HQ.out]
  generalize w.alloc (.cells #[.int .i64 0] 3) = W0 at *
  go_cut [10, 11, 12] from 32 to 48 (fun _ t _ w' => ∃ p s : Nat, t = .int .i64 (p : Nat) ∧ a ≤ p ∧ p < b ∧ Hid (Cnt w' q s ∧ Below w.heap.size w w'))
  case first =>
    have hobw : ∀ (W W' : World), Below w.heap.size w W → Only W W' (fun k => k = q) → Below w.heap.size w W' := fun _ _ hb ho => hb.trans (ho.below _ hb.size fun x hx e => by have := HQ.out; omega)
    have HOBW := Lib.hid hobw
    clear hobw
    by_cases h50 : 50 ≤ l
    · have e1 : decide ((50 : Int) ≤ (l : Int)) = true := decide_eq_true (by omega)
      have e1n : decide (50 ≤ l) = true := decide_eq_true h50
      go_wp2_with fail
      refine (medadj_any B g n c q i 0 d _ HR0.out HG.out HNEW.out (by have := HB.out; omega) (by have := HB.out; omega) (by omega) hn).mono ?_
      rintro e w1 ⟨x1, s1', rfl, hx1, hs1, hc1, ho1⟩
      have r1 := HR0.out.keep ho1 (fun e => HG.out e.symm)
      have b1 := HOBW.out _ _ HB0.out ho1
      go_wp2_with fail
      refine (medadj_any B g n c q j s1' d _ r1 HG.out hc1 (by have := HB.out; omega) (by have := HB.out; omega) (by omega) hn).mono ?_
      rintro e w2 ⟨x2, s2', rfl, hx2, hs2, hc2, ho2⟩
      have r2 := r1.keep ho2 (fun e => HG.out e.symm)
      have b2 := HOBW.out _ _ b1 ho2
      go_wp2_with fail
      refine (medadj_any B g n c q k s2' d _ r2 HG.out hc2 (by have := HB.out; omega) (by have := HB.out; omega) (by omega) hn).mono ?_
      rintro e w3 ⟨x3, s3', rfl, hx3, hs3, hc3, ho3⟩
      have r3 := r2.keep ho3 (fun e => HG.out e.symm)
      have b3 := HOBW.out _ _ b2 ho3
      go_wp2_with fail
      refine (median_any B g n c q x1 x2 x3 s3' d _ r3 HG.out hc3 (by have := HB.out; omega) (by have := HB.out; omega) (by have := HB.out; omega) (by omega) hn).mono ?_
      rintro e w4 ⟨x4, s4', rfl, hx4, hs4, hc4, ho4⟩
      have b4 := HOBW.out _ _ b3 ho4
      go_wp2_with fail
      go_meet
      case rel => exact ⟨x4, s4', rfl, by have := HB.out; have := this.2.2.2.2.2.2 h50; omega, by have := HB.out; have := this.2.2.2.2.2.2 h50; omega, Lib.hid ⟨hc4, b4⟩⟩
    · have e1 : decide ((50 : Int) ≤ (l : Int)) = false := decide_eq_false (by omega)
      have e1n : decide (50 ≤ l) = false := decide_eq_false h50
      go_wp2_with fail
      refine (median_any B g n c q i j k 0 d _ HR0.out HG.out HNEW.out (by have := HB.out; omega) (by have := HB.out; omega) (by have := HB.out; omega) (by omega) hn).mono ?_
      rintro e w4 ⟨x4, s4', rfl, hx4, hs4, hc4, ho4⟩
      have b4 := HOBW.out _ _ HB0.out ho4
      go_wp2_with fail
      go_meet
      case rel => exact ⟨x4, s4', rfl, by have := HB.out; omega, by have := HB.out; omega, Lib.hid ⟨hc4, b4⟩⟩
  case rest =>
  rename World => w1
  obtain ⟨p, s, rfl, hp1, hp2, hc⟩ := hcut
  have kc := hc.out.1.cell
  have HBE := Lib.hid hc.out.2
  clear hc HNEW HB0 HR0
  by_cases h0 : s = 0
  · subst h0
    go_wp2_with fail
    go_ret2
    exact ⟨p, 1, rfl, hp1, hp2, by omega, HBE.out⟩
  · have z1 : ((s : Int) == 0) = false := beq_eq_false_iff_ne.2 (by omega)
    have z2 : decide ((s : Int) = 0) = false := decide_eq_false (by omega)
    have z3 : (s == 0) = false := beq_eq_false_iff_ne.2 h0
    have z4 : decide (s = 0) = false := decide_eq_false h0
    by_cases h12 : s = 12
    · subst h12
      go_wp2_with fail
      go_ret2
      exact ⟨p, 2, rfl, hp1, hp2, by omega, HBE.out⟩
    · have y1 : ((s : Int) == 12) = false := beq_eq_false_iff_ne.2 (by omega)
      have y2 : decide ((s : Int) = 12) = false := decide_eq_false (by omega)
      have y3 : (s == 12) = false := beq_eq_false_iff_ne.2 h12
      have y4 : decide (s = 12) = false := decide_eq_false h12
      go_wp2_with fail
      go_ret2
      exact ⟨p, 0, rfl, hp1, hp2, by omega, HBE.out⟩
end Go.Proofs.Ytnbncjebmlicgaa
/- Walk: insertionSortOrdered. -/
namespace Go.Proofs.Ytnbncjebmlicgaa
open Go.RowKit Go.Sort

set_option linter.unusedSimpArgs false in
set_option maxRecDepth 20000 in
set_option maxHeartbeats 3200000 in
theorem srtins_any (B g n c a b : Nat) (d : Array Nat) (w : World) (h : SRow B w g n c d) (hab : a ≤ b) (hbn : b ≤ n) (hn : n ≤ 1000000000) :
    Calls Try.prog 78 #[.slice (some ⟨g, 0, none⟩) n c, .int .i64 a, .int .i64 b] w fun e w' => e = .returned (.tuple #[]) ∧ SRow B w' g n c (insertionSort ltN d a b) ∧ Only w w' (fun q => q = g) := by
  have H := Lib.hid h
  obtain ⟨R, hR⟩ : ∃ R, R = insertionSort ltN d a b := ⟨_, rfl⟩
  rw [← hR]
  have HR : Hid (insOuter ltN a b (a + 1) d = R) := Lib.hid hR.symm
  clear h hR
  go_enter Try.func78, Try.ntmps78
  go_wp2_with fail
  go_loopw [6] (fun i wr => ∃ (k : Nat) (d' : Array Nat), a + 1 ≤ k ∧ k ≤ b + 1 ∧ i = .int .i64 k ∧ Hid (SRow B wr g n c d' ∧ insOuter ltN a b k d' = R ∧ Only w wr (fun q => q = g))) (fun i _ => b + 1 - (intOf i).toNat)
  case atStart => exact ⟨a + 1, d, by omega, by omega, by go_num, Lib.hid ⟨H.out, HR.out, Only.refl _ _⟩⟩
  case round =>
    clear HR H
    obtain ⟨k, d', hk1, hk2, rfl, hin⟩ := hrel
    by_cases hlt : k < b
    · have d1 : decide ((k : Int) < (b : Int)) = true := decide_eq_true (by omega)
      have d1n : decide (k < b) = true := decide_eq_true hlt
      obtain ⟨R2, hR2⟩ : ∃ R2, R2 = insInner ltN a k d' := ⟨_, rfl⟩
      have HR2 := Lib.hid hR2
      have HO : Hid (insOuter ltN a b (k + 1) R2 = R) := Lib.hid (by rw [hR2, ← hin.out.2.1]; conv => rhs; rw [insOuter, if_pos hlt])
      have HS := Lib.hid hin.out.1
      have HON := Lib.hid hin.out.2.2
      clear hR2 hin
      go_wp2_with fail
      go_loopw [7] (fun i ws => ∃ (j : Nat) (d2 : Array Nat), a ≤ j ∧ j ≤ k ∧ i = .int .i64 j ∧ Hid (SRow B ws g n c d2 ∧ insInner ltN a j d2 = R2 ∧ Only w ws (fun q => q = g))) (fun i _ => (intOf i).toNat)
      case atStart => exact ⟨k, d', by omega, by omega, rfl, Lib.hid ⟨HS.out, HR2.out.symm, HON.out⟩⟩
      case round =>
        clear HS HON HR2
        obtain ⟨j, d2, hj1, hj2, rfl, hin⟩ := hrel
        by_cases hja : a < j
        · obtain ⟨i, rfl⟩ : ∃ i, j = i + 1 := ⟨j - 1, by omega⟩
          obtain ⟨c1, f1⟩ := hin.out.1.get (i := i + 1) (by omega)
          obtain ⟨c0, f0⟩ := hin.out.1.get (i := i) (by omega)
          obtain ⟨x, hx⟩ : ∃ x, x = d2[i + 1]! := ⟨_, rfl⟩
          obtain ⟨y, hy⟩ : ∃ y, y = d2[i]! := ⟨_, rfl⟩
          have hswp := hin.out.1.swp (i := i + 1) (j := i) (by omega) (by omega)
          have hmod := hin.out.2.1
          rw [insInner] at hmod
          rw [← hx] at c1 hswp hmod
          rw [← hy] at c0 hswp hmod
          have HON := Lib.hid hin.out.2.2
          have HC := Lib.hid (And.intro c1 c0)
          have HSW := Lib.hid hswp
          have HMOD := Lib.hid hmod
          have HROW := Lib.hid hin.out.1
          clear hx hy hswp hmod hin
          have d1 : decide ((a : Int) < (i : Int) + 1) = true := decide_eq_true (by omega)
          have d1n : decide (a < i + 1) = true := decide_eq_true hja
          have i1 : i + 1 ≤ 9223372036854775807 := by omega
          have i2 : i + 1 < n := by omega
          have i3 : i < n := by omega
          have i0 : IntKind.i64.wrap (i : Int) = (i : Int) := by rw [IntKind.wrap_i64]; omega
          have i4 : (0 : Int) ≤ (i : Int) + 1 := by omega
          have i5 : (i : Int) + 1 < (n : Int) := by omega
          have i6 : (0 : Int) ≤ (i : Int) := by omega
          have i7 : (i : Int) < (n : Int) := by omega
          go_upto_region 4 with fail
          go_quiet ((go_at_call 84; with_reducible exact Calls.quiet_of_same (less_any x y _)))
          cases hxy : ltN x y
          · have hm2 : d2 = R2 := by
              have := HMOD.out
              rw [if_neg (by rw [hxy, Bool.and_false]; decide)] at this
              exact this
            have HOUT : Hid (SRow B (wr.drewN nq) g n c d2 ∧ insOuter ltN a b (k + 1) d2 = R ∧ Only w (wr.drewN nq) (fun q => q = g)) := Lib.hid ⟨HROW.out, by rw [hm2]; exact HO.out, HON.out.drewN nq⟩
            clear hm2 hxy HMOD HROW HON HSW
            generalize wr.drewN nq = W2 at *
            go_wp2_with fail
            exact ⟨⟨k + 1, d2, by omega, by omega, by go_num, HOUT⟩, by simp [intOf]; omega⟩
          · have hm2 : insInner ltN a i (swp d2 (i + 1) i) = R2 := by
              have := HMOD.out
              rw [if_pos (by rw [hxy, Bool.and_true]; exact decide_eq_true hja)] at this
              exact this
            have HM2 := Lib.hid hm2
            have hc1 : (wr.drewN nq).cell? ⟨g, i + 1, none⟩ = some (.int .u64 x) := HC.out.1
            have hc0 : (wr.drewN nq).cell? ⟨g, i, none⟩ = some (.int .u64 y) := HC.out.2
            have hf1 : (wr.drewN nq).frozen? ⟨g, i + 1, none⟩ = false := f1
            have hf0 : (wr.drewN nq).frozen? ⟨g, i, none⟩ = false := f0
            have HSW2 : Hid (SRow B (((wr.drewN nq).setCell ⟨g, i + 1, none⟩ (.int .u64 y)).setCell ⟨g, i, none⟩ (.int .u64 x)) g n c (swp d2 (i + 1) i)) := Lib.hid HSW.out
            have HON2 := Lib.hid (one_only (HON.out.drewN nq) (swp_only (wr.drewN nq) g (i + 1) i (.int .u64 y) (.int .u64 x)))
            clear hm2 hxy HMOD HROW HON HSW c1 c0 f1 f0 HC
            generalize wr.drewN nq = W2 at *
            go_upto_region 6 with fail
            have hd1 : W2.drew.cell? ⟨g, i + 1, none⟩ = some (.int .u64 x) := hc1
            have hd0 : W2.drew.cell? ⟨g, i, none⟩ = some (.int .u64 y) := hc0
            refine region_anyZ (z := 14) (S := fun w' => w'.cell? ⟨g, i + 1, none⟩ = some (.int .u64 x) ∧ w'.cell? ⟨g, i, none⟩ = some (.int .u64 y)) (by kernel_rfl) ?_
            refine anyZ_begin (fun hcl0 => ?_)
            refine anyZ_held (by exact ⟨hd1, hd0⟩) (fun hHeld => ?_)
            -- 0: Op.move (Operand.tmp 0)
            refine' anyZ_pure (i := 0) (v := _) rfl (by rfl) (by kernel_rfl) (by kernel_rfl) (by kernel_rfl) hcl0 (fun _ _ _ h => h) (Or.inl ⟨by rfl, fun w _ => ?hy1⟩) (fun _ => hHeld) (fun hcl1 => ?ry1)
            case hy1 => (simp only [List.getElem_toArray, List.getElem_cons_zero]; first | (go_simp; with_reducible rfl) | (go_simp; done) | rfl)
            simp only [List.getElem_toArray, List.getElem_cons_zero, Act.put, List.setIfInBounds_toArray, List.set_cons_zero, List.set_cons_succ]
            -- 1: Op.move (Operand.tmp 7)
            refine' anyZ_pure (i := 1) (v := _) rfl (by rfl) (by kernel_rfl) (by kernel_rfl) (by kernel_rfl) hcl1 (fun _ _ _ h => h) (Or.inl ⟨by rfl, fun w _ => ?hy2⟩) (fun _ => hHeld) (fun hcl2 => ?ry2)
            case hy2 => (simp only [List.getElem_toArray, List.getElem_cons_succ, List.getElem_cons_zero]; first | (go_simp; with_reducible rfl) | (go_simp; done) | rfl)
            simp only [List.getElem_toArray, List.getElem_cons_succ, List.getElem_cons_zero, Act.put, List.setIfInBounds_toArray, List.set_cons_zero, List.set_cons_succ]
            -- 2: Op.move (Operand.tmp 0)
            refine' anyZ_pure (i := 2) (v := _) rfl (by rfl) (by kernel_rfl) (by kernel_rfl) (by kernel_rfl) hcl2 (fun _ _ _ h => h) (Or.inl ⟨by rfl, fun w _ => ?hy3⟩) (fun _ => hHeld) (fun hcl3 => ?ry3)
            case hy3 => (simp only [List.getElem_toArray, List.getElem_cons_succ, List.getElem_cons_zero]; first | (go_simp; with_reducible rfl) | (go_simp; done) | rfl)
            simp only [List.getElem_toArray, List.getElem_cons_succ, List.getElem_cons_zero, Act.put, List.setIfInBounds_toArray, List.set_cons_zero, List.set_cons_succ]
            -- 3: Op.move (Operand.tmp 7)
            refine' anyZ_pure (i := 3) (v := _) rfl (by rfl) (by kernel_rfl) (by kernel_rfl) (by kernel_rfl) hcl3 (fun _ _ _ h => h) (Or.inl ⟨by rfl, fun w _ => ?hy4⟩) (fun _ => hHeld) (fun hcl4 => ?ry4)
            case hy4 => (simp only [List.getElem_toArray, List.getElem_cons_succ, List.getElem_cons_zero]; first | (go_simp; with_reducible rfl) | (go_simp; done) | rfl)
            simp only [List.getElem_toArray, List.getElem_cons_succ, List.getElem_cons_zero, Act.put, List.setIfInBounds_toArray, List.set_cons_zero, List.set_cons_succ]
            -- 4: Op.binOp BinOp.sub 3 (Operand.tmp 36) (Operand.const (Value.
            refine' anyZ_pure (i := 4) (v := _) rfl (by rfl) (by kernel_rfl) (by kernel_rfl) (by kernel_rfl) hcl4 (fun _ _ _ h => h) (Or.inl ⟨by rfl, fun w _ => ?hy5⟩) (fun _ => hHeld) (fun hcl5 => ?ry5)
            case hy5 => (simp only [List.getElem_toArray, List.getElem_cons_succ, List.getElem_cons_zero]; first | (go_simp; with_reducible rfl) | (go_simp; done) | rfl)
            simp only [List.getElem_toArray, List.getElem_cons_succ, List.getElem_cons_zero, Act.put, List.setIfInBounds_toArray, List.set_cons_zero, List.set_cons_succ]
            -- 5: Op.move (Operand.tmp 0)
            refine' anyZ_pure (i := 5) (v := _) rfl (by rfl) (by kernel_rfl) (by kernel_rfl) (by kernel_rfl) hcl5 (fun _ _ _ h => h) (Or.inl ⟨by rfl, fun w _ => ?hy6⟩) (fun _ => hHeld) (fun hcl6 => ?ry6)
            case hy6 => (simp only [List.getElem_toArray, List.getElem_cons_succ, List.getElem_cons_zero]; first | (go_simp; with_reducible rfl) | (go_simp; done) | rfl)
            simp only [List.getElem_toArray, List.getElem_cons_succ, List.getElem_cons_zero, Act.put, List.setIfInBounds_toArray, List.set_cons_zero, List.set_cons_succ]
            -- 6: Op.move (Operand.tmp 7)
            refine' anyZ_pure (i := 6) (v := _) rfl (by rfl) (by kernel_rfl) (by kernel_rfl) (by kernel_rfl) hcl6 (fun _ _ _ h => h) (Or.inl ⟨by rfl, fun w _ => ?hy7⟩) (fun _ => hHeld) (fun hcl7 => ?ry7)
            case hy7 => (simp only [List.getElem_toArray, List.getElem_cons_succ, List.getElem_cons_zero]; first | (go_simp; with_reducible rfl) | (go_simp; done) | rfl)
            simp only [List.getElem_toArray, List.getElem_cons_succ, List.getElem_cons_zero, Act.put, List.setIfInBounds_toArray, List.set_cons_zero, List.set_cons_succ]
            -- 7: Op.binOp BinOp.sub 3 (Operand.tmp 39) (Operand.const (Value.
            refine' anyZ_pure (i := 7) (v := _) rfl (by rfl) (by kernel_rfl) (by kernel_rfl) (by kernel_rfl) hcl7 (fun _ _ _ h => h) (Or.inl ⟨by rfl, fun w _ => ?hy8⟩) (fun _ => hHeld) (fun hcl8 => ?ry8)
            case hy8 => (simp only [List.getElem_toArray, List.getElem_cons_succ, List.getElem_cons_zero]; first | (go_simp; with_reducible rfl) | (go_simp; done) | rfl)
            simp only [List.getElem_toArray, List.getElem_cons_succ, List.getElem_cons_zero, Act.put, List.setIfInBounds_toArray, List.set_cons_zero, List.set_cons_succ]
            -- 8: Op.indexAddr 27 (Operand.tmp 38) (Operand.tmp 40)
            refine' anyZ_pure (i := 8) (v := _) rfl (by rfl) (by kernel_rfl) (by kernel_rfl) (by kernel_rfl) hcl8 (fun _ _ _ h => h) (Or.inl ⟨by rfl, fun w _ => ?hy9⟩) (fun _ => hHeld) (fun hcl9 => ?ry9)
            case hy9 => (simp only [List.getElem_toArray, List.getElem_cons_succ, List.getElem_cons_zero]; first | (go_simp; with_reducible rfl) | (go_simp; done) | rfl)
            simp only [List.getElem_toArray, List.getElem_cons_succ, List.getElem_cons_zero, Act.put, List.setIfInBounds_toArray, List.set_cons_zero, List.set_cons_succ]
            -- 9: Op.load 26 (Operand.tmp 41)
            refine' anyZ_take (i := 9) (v := _) rfl (by rfl) (by kernel_rfl) (by kernel_rfl) (by kernel_rfl) hcl9 14 (by kernel_rfl) (by kernel_rfl) (fun _ _ _ h => h) (Or.inl ⟨by rfl, fun w hSw => ?hy10⟩) hHeld (fun hcl10 => ?ry10)
            case hy10 => (simp only [List.getElem_toArray, List.getElem_cons_succ, List.getElem_cons_zero]; obtain ⟨hS1, hS2⟩ := hSw; first | (go_simp; with_reducible rfl) | (go_simp; done) | rfl)
            simp only [List.getElem_toArray, List.getElem_cons_succ, List.getElem_cons_zero, Act.put, List.setIfInBounds_toArray, List.set_cons_zero, List.set_cons_succ]
            -- 10: Op.move (Operand.tmp 0)
            refine' anyZ_pure (i := 10) (v := _) rfl (by rfl) (by kernel_rfl) (by kernel_rfl) (by kernel_rfl) hcl10 (fun _ _ _ h => h) (Or.inl ⟨by rfl, fun w _ => ?hy11⟩) (fun _ => hHeld) (fun hcl11 => ?ry11)
            case hy11 => (simp only [List.getElem_toArray, List.getElem_cons_succ, List.getElem_cons_zero]; first | (go_simp; with_reducible rfl) | (go_simp; done) | rfl)
            simp only [List.getElem_toArray, List.getElem_cons_succ, List.getElem_cons_zero, Act.put, List.setIfInBounds_toArray, List.set_cons_zero, List.set_cons_succ]
            -- 11: Op.move (Operand.tmp 7)
            refine' anyZ_pure (i := 11) (v := _) rfl (by rfl) (by kernel_rfl) (by kernel_rfl) (by kernel_rfl) hcl11 (fun _ _ _ h => h) (Or.inl ⟨by rfl, fun w _ => ?hy12⟩) (fun _ => hHeld) (fun hcl12 => ?ry12)
            case hy12 => (simp only [List.getElem_toArray, List.getElem_cons_succ, List.getElem_cons_zero]; first | (go_simp; with_reducible rfl) | (go_simp; done) | rfl)
            simp only [List.getElem_toArray, List.getElem_cons_succ, List.getElem_cons_zero, Act.put, List.setIfInBounds_toArray, List.set_cons_zero, List.set_cons_succ]
            -- 12: Op.indexAddr 27 (Operand.tmp 43) (Operand.tmp 44)
            refine' anyZ_pure (i := 12) (v := _) rfl (by rfl) (by kernel_rfl) (by kernel_rfl) (by kernel_rfl) hcl12 (fun _ _ _ h => h) (Or.inl ⟨by rfl, fun w _ => ?hy13⟩) (fun _ => hHeld) (fun hcl13 => ?ry13)
            case hy13 => (simp only [List.getElem_toArray, List.getElem_cons_succ, List.getElem_cons_zero]; first | (go_simp; with_reducible rfl) | (go_simp; done) | rfl)
            simp only [List.getElem_toArray, List.getElem_cons_succ, List.getElem_cons_zero, Act.put, List.setIfInBounds_toArray, List.set_cons_zero, List.set_cons_succ]
            -- 13: Op.load 26 (Operand.tmp 45)
            refine' anyZ_take (i := 13) (v := _) rfl (by rfl) (by kernel_rfl) (by kernel_rfl) (by kernel_rfl) hcl13 14 (by kernel_rfl) (by kernel_rfl) (fun _ _ _ h => h) (Or.inl ⟨by rfl, fun w hSw => ?hy14⟩) hHeld (fun hcl14 => ?ry14)
            case hy14 => (simp only [List.getElem_toArray, List.getElem_cons_succ, List.getElem_cons_zero]; obtain ⟨hS1, hS2⟩ := hSw; first | (go_simp; with_reducible rfl) | (go_simp; done) | rfl)
            simp only [List.getElem_toArray, List.getElem_cons_succ, List.getElem_cons_zero, Act.put, List.setIfInBounds_toArray, List.set_cons_zero, List.set_cons_succ]
            clear hHeld
            refine anyZ_chain_at (by kernel_rfl) ?_
            simp only [List.drop_succ_cons, List.drop_zero]
            go_wp2_with fail
            exact ⟨⟨i, swp d2 (i + 1) i, by omega, by omega, rfl, Lib.hid ⟨HSW2.out, HM2.out, HON2.out.drew⟩⟩, by simp [intOf]⟩
        · have d1 : decide ((a : Int) < (j : Int)) = false := decide_eq_false (by omega)
          have d1n : decide (a < j) = false := decide_eq_false hja
          have hmod : d2 = R2 := by
            have h1 := hin.out.2.1
            cases j with
            | zero => exact h1
            | succ i => rw [insInner, if_neg (by rw [Bool.and_eq_true]; rintro ⟨h2, -⟩; exact hja (of_decide_eq_true h2))] at h1; exact h1
          have HMOD := Lib.hid hmod
          clear hmod
          go_upto_region 4 with fail
          go_quiet (fail)
          go_wp2_with fail
          exact ⟨⟨k + 1, d2, by omega, by omega, by go_num, Lib.hid ⟨hin.out.1, by rw [HMOD.out]; exact HO.out, hin.out.2.2.drewN nq⟩⟩, by simp [intOf]; omega⟩
    · have d1 : decide ((k : Int) < (b : Int)) = false := decide_eq_false (by omega)
      have d1n : decide (k < b) = false := decide_eq_false hlt
      have hfin := hin.out.2.1
      rw [insOuter, if_neg hlt] at hfin
      have HFIN := Lib.hid hfin
      clear hfin
      go_wp2_with fail
      go_end0
      exact ⟨rfl, by rw [← HFIN.out]; exact hin.out.1, hin.out.2.2⟩
end Go.Proofs.Ytnbncjebmlicgaa
/- Walk: reverseRangeOrdered. -/
namespace Go.Proofs.Ytnbncjebmlicgaa
open Go.RowKit Go.Sort

set_option linter.unusedSimpArgs false in
set_option maxRecDepth 20000 in
set_option maxHeartbeats 6400000 in
theorem srtrev_any (B g n c a b : Nat) (d : Array Nat) (w : World) (h : SRow B w g n c d) (hab : a < b) (hbn : b ≤ n) (hn : n ≤ 1000000000) :
    Calls Try.prog 82 #[.slice (some ⟨g, 0, none⟩) n c, .int .i64 a, .int .i64 b] w fun e w' => e = .returned (.tuple #[]) ∧ SRow B w' g n c (reverseRange d a b) ∧ Only w w' (fun q => q = g) := by
  have H := Lib.hid h
  obtain ⟨R, hR⟩ : ∃ R, R = reverseRange d a b := ⟨_, rfl⟩
  rw [← hR]
  have HR : Hid (reverseLoop a (b - 1) d = R) := Lib.hid hR.symm
  clear h hR
  go_enter Try.func82, Try.ntmps82
  go_wp2_with fail
  go_loopw [6, 7] (fun i j wr => ∃ (p q : Nat) (d' : Array Nat), p ≤ n ∧ q < n ∧ p ≤ q + 1 ∧ i = .int .i64 p ∧ j = .int .i64 q ∧ Hid (SRow B wr g n c d' ∧ reverseLoop p q d' = R ∧ Only w wr (fun q => q = g))) (fun i _ _ => n + 1 - (intOf i).toNat)
  case atStart => exact ⟨a, b - 1, d, by omega, by omega, by omega, rfl, by congr 1; omega, Lib.hid ⟨H.out, HR.out, Only.refl _ _⟩⟩
  case round =>
    clear HR H
    obtain ⟨p, q, d', hp1, hq1, hpq, rfl, rfl, hin⟩ := hrel
    by_cases hlt : p < q
    · have d1 : decide ((p : Int) < (q : Int)) = true := decide_eq_true (by omega)
      have d1n : decide (p < q) = true := decide_eq_true hlt
      have HM : Hid (reverseLoop (p + 1) (q - 1) (swp d' p q) = R) := Lib.hid (by rw [← hin.out.2.1]; conv => rhs; rw [reverseLoop, if_pos hlt])
      have HROW := Lib.hid hin.out.1
      have HON := Lib.hid hin.out.2.2
      clear hin
      have hne : ¬ p = q := by omega
      have hne2 : ¬ q = p := by omega
      have pa : (0 : Int) ≤ (p : Int) := by omega
      have pb : (p : Int) < (n : Int) := by omega
      have pc : p < n := by omega
      have pe : IntKind.i64.wrap (p : Int) = (p : Int) := by rw [IntKind.wrap_i64]; omega
      have qa : (0 : Int) ≤ (q : Int) := by omega
      have qb : (q : Int) < (n : Int) := by omega
      have qc : q < n := by omega
      have qe : IntKind.i64.wrap (q : Int) = (q : Int) := by rw [IntKind.wrap_i64]; omega
      obtain ⟨kp, fp⟩ := HROW.out.get (i := p) (by omega)
      obtain ⟨x, hx⟩ : ∃ x, x = d'[p]! := ⟨_, rfl⟩
      rw [← hx] at kp
      have HVx := Lib.hid hx
      clear hx
      obtain ⟨kq, fq⟩ := HROW.out.get (i := q) (by omega)
      obtain ⟨y, hy⟩ : ∃ y, y = d'[q]! := ⟨_, rfl⟩
      rw [← hy] at kq
      have HVy := Lib.hid hy
      clear hy
      obtain ⟨hk1, hf1⟩ := HROW.out.get (i := p) (by omega)
      obtain ⟨hk0, hf0⟩ := HROW.out.get (i := q) (by omega)
      have HROW2 := Lib.hid (HROW.out.swp (i := p) (j := q) (by omega) (by omega))
      rw [← HVx.out] at hk1 HROW2
      rw [← HVy.out] at hk0 HROW2
      have HON2 := Lib.hid (one_only HON.out (swp_only wr g p q (.int .u64 y) (.int .u64 x)))
      clear HROW HON
      go_upto_region 3 with fail
      have hd1y : wr.drew.cell? ⟨g, p, none⟩ = some (.int .u64 x) := hk1
      have hd0y : wr.drew.cell? ⟨g, q, none⟩ = some (.int .u64 y) := hk0
      refine region_anyZ (z := 12) (S := fun w' => w'.cell? ⟨g, p, none⟩ = some (.int .u64 x) ∧ w'.cell? ⟨g, q, none⟩ = some (.int .u64 y)) (by kernel_rfl) ?_
      refine anyZ_begin (fun hcl0 => ?_)
      refine anyZ_held (by exact ⟨hd1y, hd0y⟩) (fun hHeld => ?_)
      -- 0: Op.move (Operand.tmp 0)
      refine' anyZ_pure (i := 0) (v := _) rfl (by rfl) (by kernel_rfl) (by kernel_rfl) (by kernel_rfl) hcl0 (fun _ _ _ h => h) (Or.inl ⟨by rfl, fun w _ => ?hy1⟩) (fun _ => hHeld) (fun hcl1 => ?ry1)
      case hy1 => (simp only [List.getElem_toArray, List.getElem_cons_zero]; first | (go_simp; with_reducible rfl) | (go_simp; done) | rfl)
      simp only [List.getElem_toArray, List.getElem_cons_zero, Act.put, List.setIfInBounds_toArray, List.set_cons_zero, List.set_cons_succ]
      -- 1: Op.move (Operand.tmp 6)
      refine' anyZ_pure (i := 1) (v := _) rfl (by rfl) (by kernel_rfl) (by kernel_rfl) (by kernel_rfl) hcl1 (fun _ _ _ h => h) (Or.inl ⟨by rfl, fun w _ => ?hy2⟩) (fun _ => hHeld) (fun hcl2 => ?ry2)
      case hy2 => (simp only [List.getElem_toArray, List.getElem_cons_succ, List.getElem_cons_zero]; first | (go_simp; with_reducible rfl) | (go_simp; done) | rfl)
      simp only [List.getElem_toArray, List.getElem_cons_succ, List.getElem_cons_zero, Act.put, List.setIfInBounds_toArray, List.set_cons_zero, List.set_cons_succ]
      -- 2: Op.move (Operand.tmp 0)
      refine' anyZ_pure (i := 2) (v := _) rfl (by rfl) (by kernel_rfl) (by kernel_rfl) (by kernel_rfl) hcl2 (fun _ _ _ h => h) (Or.inl ⟨by rfl, fun w _ => ?hy3⟩) (fun _ => hHeld) (fun hcl3 => ?ry3)
      case hy3 => (simp only [List.getElem_toArray, List.getElem_cons_succ, List.getElem_cons_zero]; first | (go_simp; with_reducible rfl) | (go_simp; done) | rfl)
      simp only [List.getElem_toArray, List.getElem_cons_succ, List.getElem_cons_zero, Act.put, List.setIfInBounds_toArray, List.set_cons_zero, List.set_cons_succ]
      -- 3: Op.move (Operand.tmp 7)
      refine' anyZ_pure (i := 3) (v := _) rfl (by rfl) (by kernel_rfl) (by kernel_rfl) (by kernel_rfl) hcl3 (fun _ _ _ h => h) (Or.inl ⟨by rfl, fun w _ => ?hy4⟩) (fun _ => hHeld) (fun hcl4 => ?ry4)
      case hy4 => (simp only [List.getElem_toArray, List.getElem_cons_succ, List.getElem_cons_zero]; first | (go_simp; with_reducible rfl) | (go_simp; done) | rfl)
      simp only [List.getElem_toArray, List.getElem_cons_succ, List.getElem_cons_zero, Act.put, List.setIfInBounds_toArray, List.set_cons_zero, List.set_cons_succ]
      -- 4: Op.move (Operand.tmp 0)
      refine' anyZ_pure (i := 4) (v := _) rfl (by rfl) (by kernel_rfl) (by kernel_rfl) (by kernel_rfl) hcl4 (fun _ _ _ h => h) (Or.inl ⟨by rfl, fun w _ => ?hy5⟩) (fun _ => hHeld) (fun hcl5 => ?ry5)
      case hy5 => (simp only [List.getElem_toArray, List.getElem_cons_succ, List.getElem_cons_zero]; first | (go_simp; with_reducible rfl) | (go_simp; done) | rfl)
      simp only [List.getElem_toArray, List.getElem_cons_succ, List.getElem_cons_zero, Act.put, List.setIfInBounds_toArray, List.set_cons_zero, List.set_cons_succ]
      -- 5: Op.move (Operand.tmp 7)
      refine' anyZ_pure (i := 5) (v := _) rfl (by rfl) (by kernel_rfl) (by kernel_rfl) (by kernel_rfl) hcl5 (fun _ _ _ h => h) (Or.inl ⟨by rfl, fun w _ => ?hy6⟩) (fun _ => hHeld) (fun hcl6 => ?ry6)
      case hy6 => (simp only [List.getElem_toArray, List.getElem_cons_succ, List.getElem_cons_zero]; first | (go_simp; with_reducible rfl) | (go_simp; done) | rfl)
      simp only [List.getElem_toArray, List.getElem_cons_succ, List.getElem_cons_zero, Act.put, List.setIfInBounds_toArray, List.set_cons_zero, List.set_cons_succ]
      -- 6: Op.indexAddr 27 (Operand.tmp 18) (Operand.tmp 19)
      refine' anyZ_pure (i := 6) (v := _) rfl (by rfl) (by kernel_rfl) (by kernel_rfl) (by kernel_rfl) hcl6 (fun _ _ _ h => h) (Or.inl ⟨by rfl, fun w _ => ?hy7⟩) (fun _ => hHeld) (fun hcl7 => ?ry7)
      case hy7 => (simp only [List.getElem_toArray, List.getElem_cons_succ, List.getElem_cons_zero]; first | (go_simp; with_reducible rfl) | (go_simp; done) | rfl)
      simp only [List.getElem_toArray, List.getElem_cons_succ, List.getElem_cons_zero, Act.put, List.setIfInBounds_toArray, List.set_cons_zero, List.set_cons_succ]
      -- 7: Op.load 26 (Operand.tmp 20)
      refine' anyZ_take (i := 7) (v := _) rfl (by rfl) (by kernel_rfl) (by kernel_rfl) (by kernel_rfl) hcl7 14 (by kernel_rfl) (by kernel_rfl) (fun _ _ _ h => h) (Or.inl ⟨by rfl, fun w hSw => ?hy8⟩) hHeld (fun hcl8 => ?ry8)
      case hy8 => (simp only [List.getElem_toArray, List.getElem_cons_succ, List.getElem_cons_zero]; obtain ⟨hS1, hS2⟩ := hSw; first | (go_simp; with_reducible rfl) | (go_simp; done) | rfl)
      simp only [List.getElem_toArray, List.getElem_cons_succ, List.getElem_cons_zero, Act.put, List.setIfInBounds_toArray, List.set_cons_zero, List.set_cons_succ]
      -- 8: Op.move (Operand.tmp 0)
      refine' anyZ_pure (i := 8) (v := _) rfl (by rfl) (by kernel_rfl) (by kernel_rfl) (by kernel_rfl) hcl8 (fun _ _ _ h => h) (Or.inl ⟨by rfl, fun w _ => ?hy9⟩) (fun _ => hHeld) (fun hcl9 => ?ry9)
      case hy9 => (simp only [List.getElem_toArray, List.getElem_cons_succ, List.getElem_cons_zero]; first | (go_simp; with_reducible rfl) | (go_simp; done) | rfl)
      simp only [List.getElem_toArray, List.getElem_cons_succ, List.getElem_cons_zero, Act.put, List.setIfInBounds_toArray, List.set_cons_zero, List.set_cons_succ]
      -- 9: Op.move (Operand.tmp 6)
      refine' anyZ_pure (i := 9) (v := _) rfl (by rfl) (by kernel_rfl) (by kernel_rfl) (by kernel_rfl) hcl9 (fun _ _ _ h => h) (Or.inl ⟨by rfl, fun w _ => ?hy10⟩) (fun _ => hHeld) (fun hcl10 => ?ry10)
      case hy10 => (simp only [List.getElem_toArray, List.getElem_cons_succ, List.getElem_cons_zero]; first | (go_simp; with_reducible rfl) | (go_simp; done) | rfl)
      simp only [List.getElem_toArray, List.getElem_cons_succ, List.getElem_cons_zero, Act.put, List.setIfInBounds_toArray, List.set_cons_zero, List.set_cons_succ]
      -- 10: Op.indexAddr 27 (Operand.tmp 22) (Operand.tmp 23)
      refine' anyZ_pure (i := 10) (v := _) rfl (by rfl) (by kernel_rfl) (by kernel_rfl) (by kernel_rfl) hcl10 (fun _ _ _ h => h) (Or.inl ⟨by rfl, fun w _ => ?hy11⟩) (fun _ => hHeld) (fun hcl11 => ?ry11)
      case hy11 => (simp only [List.getElem_toArray, List.getElem_cons_succ, List.getElem_cons_zero]; first | (go_simp; with_reducible rfl) | (go_simp; done) | rfl)
      simp only [List.getElem_toArray, List.getElem_cons_succ, List.getElem_cons_zero, Act.put, List.setIfInBounds_toArray, List.set_cons_zero, List.set_cons_succ]
      -- 11: Op.load 26 (Operand.tmp 24)
      refine' anyZ_take (i := 11) (v := _) rfl (by rfl) (by kernel_rfl) (by kernel_rfl) (by kernel_rfl) hcl11 14 (by kernel_rfl) (by kernel_rfl) (fun _ _ _ h => h) (Or.inl ⟨by rfl, fun w hSw => ?hy12⟩) hHeld (fun hcl12 => ?ry12)
      case hy12 => (simp only [List.getElem_toArray, List.getElem_cons_succ, List.getElem_cons_zero]; obtain ⟨hS1, hS2⟩ := hSw; first | (go_simp; with_reducible rfl) | (go_simp; done) | rfl)
      simp only [List.getElem_toArray, List.getElem_cons_succ, List.getElem_cons_zero, Act.put, List.setIfInBounds_toArray, List.set_cons_zero, List.set_cons_succ]
      clear hHeld
      refine anyZ_chain_at (by kernel_rfl) ?_
      simp only [List.drop_succ_cons, List.drop_zero]
      go_wp2_with fail
      exact ⟨⟨p + 1, q - 1, _, by omega, by omega, by omega, by go_num, by congr 1; omega, Lib.hid ⟨HROW2.out, HM.out, HON2.out.drew⟩⟩, by simp [intOf]; omega⟩
    · have d1 : decide ((p : Int) < (q : Int)) = false := decide_eq_false (by omega)
      have d1n : decide (p < q) = false := decide_eq_false hlt
      have hfin := hin.out.2.1
      rw [reverseLoop, if_neg hlt] at hfin
      have HFIN := Lib.hid hfin
      clear hfin
      go_wp2_with fail
      go_end0
      exact ⟨rfl, by rw [← HFIN.out]; exact hin.out.1, hin.out.2.2⟩
end Go.Proofs.Ytnbncjebmlicgaa
