/- Walk: the number of a sign. -/
import Derived.Test.YtljdphpbalioaaaGreatDoorGrU
namespace Go.Proofs.YtljdphpbalioaaaGreatDoor
open Go.RowKit

def idxS (ls : List (List UInt8)) (x : List UInt8) : Int := if ls.idxOf x < ls.length then (ls.idxOf x : Int) else -1
theorem idxOf_first {x : List UInt8} : ∀ {ls : List (List UInt8)} {k : Nat}, ls[k]? = some x → (∀ j, j < k → ls[j]? ≠ some x) → ls.idxOf x = k
  | y :: r, 0, h, _ => by
    cases h
    simp
  | y :: r, k + 1, h, hb => by
    have hne : y ≠ x := fun e => hb 0 (by omega) (by rw [e]; rfl)
    have ih := idxOf_first (ls := r) (k := k) h fun j hj => hb (j + 1) (by omega)
    rw [List.idxOf_cons, ih, show (y == x) = false from beq_eq_false_iff_ne.2 hne]
    rfl
theorem idxS_hit {ls : List (List UInt8)} {x : List UInt8} {k : Nat} (hk : ls[k]? = some x) (hb : ∀ j, j < k → ls[j]? ≠ some x) : idxS ls x = (k : Int) := by
  have hkl := (List.getElem?_eq_some_iff.1 hk).1
  unfold idxS
  rw [idxOf_first hk hb, if_pos hkl]
theorem idxS_miss {ls : List (List UInt8)} {x : List UInt8} (hb : ∀ j, j < ls.length → ls[j]? ≠ some x) : idxS ls x = -1 := by
  unfold idxS
  rw [if_neg fun h => hb _ h (by rw [List.getElem?_eq_getElem h, List.getElem_idxOf h])]

set_option maxRecDepth 10000 in
set_option maxHeartbeats 800000 in
theorem sindex_any (q c : Nat) (ls : List (List UInt8)) (x : List UInt8) (L : Nat) (w : World) (hL : ls.length = L) (hbig : L ≤ 1000000) (hc : ∀ j y, ls[j]? = some y → w.cell? ⟨q, j, none⟩ = some (.string (mk8 y))) :
    Calls Tryz.prog 64 #[.slice (some ⟨q, 0, none⟩) L c, .string (mk8 x)] w fun e w' => e = .returned (.int .i64 (idxS ls x)) ∧ w' = w := by
  have HL := Lib.hid hL
  have HC := Lib.hid hc
  clear hL hc
  go_enter Tryz.func64, Tryz.ntmps64
  go_wp2
  go_loopw [5, 8] (fun _ i wr => ∃ k : Nat, k ≤ L ∧ i = .int .i64 k ∧ wr = w ∧ Hid (∀ j, j < k → ls[j]? ≠ some x)) (fun _ i _ => L - (intOf i).toNat)
  case atStart => exact ⟨0, by omega, rfl, rfl, Lib.hid fun j hj => absurd hj (Nat.not_lt_zero j)⟩
  case round =>
    obtain ⟨k, hk, rfl, rfl, hno⟩ := hrel
    by_cases hlt : k < L
    · have d1 : decide ((k : Int) < (L : Int)) = true := decide_eq_true (by omega)
      have d1n : decide (k < L) = true := decide_eq_true hlt
      have hkl : k < ls.length := by rw [HL.out]; exact hlt
      obtain ⟨y, hy⟩ : ∃ y, ls[k]? = some y := ⟨_, List.getElem?_eq_getElem hkl⟩
      have hu := HC.out k y hy
      have HY := Lib.hid hy
      have k1 : (0 : Int) ≤ (k : Int) := by omega
      have k2 : (k : Int) < (L : Int) := by omega
      clear hy hkl
      by_cases hxy : x = y
      · subst hxy
        have HNO := Lib.hid (idxS_hit HY.out hno.out)
        have q1 : ((mk8 x).toList == (mk8 x).toList) = true := beq_self_eq_true _
        clear hno HY
        go_wp2
        go_ret
        exact ⟨by rw [HNO.out]; rfl, rfl⟩
      · have q1 : ((mk8 x).toList == (mk8 y).toList) = false := beq_eq_false_iff_ne.2 (by rw [mk8_list, mk8_list]; exact hxy)
        have HNO : Hid (∀ j, j < k + 1 → ls[j]? ≠ some x) := Lib.hid fun j hj => by
          rcases Nat.lt_succ_iff_lt_or_eq.1 hj with h | rfl
          · exact hno.out j h
          · rw [HY.out]; intro e; cases e; exact hxy rfl
        clear hno HY
        go_wp2
        go_roundw
        case rel => exact ⟨k + 1, by omega, by go_num, by first | rfl | trivial, HNO⟩
        case measure => simp [intOf]; omega
    · have d1 : decide ((k : Int) < (L : Int)) = false := decide_eq_false (by omega)
      have d1n : decide (k < L) = false := decide_eq_false hlt
      have e : idxS ls x = -1 := idxS_miss fun j hj => hno.out j (by rw [HL.out] at hj; omega)
      have HE := Lib.hid e
      clear e hno
      go_wp2
      go_ret
      exact ⟨by rw [HE.out]; rfl, rfl⟩

theorem opNum_idx (x : List UInt8) : idxS Gr.ops x + 1 = (Gr.opNum x : Int) := by
  unfold idxS Gr.opNum
  split <;> omega

set_option maxRecDepth 100000 in
theorem opnum_any (x : List UInt8) (w : World) (hsp : Sp w) : Calls Tryz.prog 72 #[.string (mk8 x)] w fun e w' => e = .returned (.int .i64 (Gr.opNum x : Nat)) ∧ Below w.heap.size w w' := by
  go_enter Tryz.func72, Tryz.ntmps72
  go_wp2_with fail
  refine (fields_is _ Gr.ops 13 w hsp (by kernel_rfl) rfl (of_decide_eq_true (by kernel_rfl)) (by kernel_rfl)).mono ?_
  rintro e w1 ⟨rfl, rfl⟩
  have hb := bal (bre w) (.cells (Gr.ops.map strV).toArray 9)
  have hrow := heap_alloc_new w (.cells (Gr.ops.map strV).toArray 9)
  generalize w.alloc (.cells (Gr.ops.map strV).toArray 9) = W at *
  have hc : ∀ j y, Gr.ops[j]? = some y → W.cell? ⟨w.heap.size, j, none⟩ = some (.string (mk8 y)) := fun j y hy => by
    have hj := (List.getElem?_eq_some_iff.1 hy).1
    rw [strs_cell hrow j hj, strV_mk]
    rw [List.getD_eq_getElem?_getD, hy]
    rfl
  have HB := Lib.hid hb
  have HC := Lib.hid hc
  have HO := Lib.hid (opNum_idx x)
  clear hb hrow hc hsp
  go_wp2_with fail
  refine (sindex_any w.heap.size 13 Gr.ops x 13 W rfl (by decide) HC.out).mono ?_
  rintro e w2 ⟨rfl, hw⟩
  have hw' := hw.symm
  subst hw'
  clear hw
  have hid : idxS Gr.ops x = (Gr.opNum x : Int) - 1 := by have := HO.out; omega
  have hlt : Gr.opNum x ≤ 13 := by unfold Gr.opNum; split <;> first | omega | (rename_i h; have h2 : Gr.ops.length = 13 := rfl; omega)
  rw [hid]
  obtain ⟨o, ho⟩ : ∃ o, o = Gr.opNum x := ⟨_, rfl⟩
  rw [← ho] at hlt ⊢
  have HOO := Lib.hid ho
  have h1 : wrap64 ((o : Int) - 1 + 1) = (o : Int) := by unfold wrap64; omega
  have h2 : IntKind.i64.wrap ((o : Int) - 1 + 1) = (o : Int) := by rw [IntKind.wrap_i64]; omega
  have h3 : (o : Int) - 1 + 1 = (o : Int) := by omega
  have h4 : wrap64 (o : Int) = (o : Int) := by unfold wrap64; omega
  clear hid HO ho
  go_wp2_with fail
  go_ret
  exact ⟨by rw [← HOO.out]; rfl, HB.out⟩

def signOf (op : Int) : List UInt8 := if op < 1 ∨ 13 < op then [] else Gr.ops.getD (op - 1).toNat []
set_option maxRecDepth 100000 in
theorem sign_any (op : Int) (h0 : -9223372036854775808 ≤ op) (h1 : op ≤ 9223372036854775807) (w : World) (hsp : Sp w) : Calls Tryz.prog 11 #[.int .i64 op] w fun e w' => e = .returned (.string (mk8 (signOf op))) ∧ Below w.heap.size w w' := by
  obtain ⟨R, hR⟩ : ∃ R, R = signOf op := ⟨_, rfl⟩
  rw [← hR]
  have HR := Lib.hid hR
  clear hR
  go_enter Tryz.func11, Tryz.ntmps11
  go_wp2_with fail
  refine (fields_is _ Gr.ops 13 w hsp (by kernel_rfl) rfl (of_decide_eq_true (by kernel_rfl)) (by kernel_rfl)).mono ?_
  rintro e w1 ⟨rfl, rfl⟩
  have hb := bal (bre w) (.cells (Gr.ops.map strV).toArray 9)
  have hrow := heap_alloc_new w (.cells (Gr.ops.map strV).toArray 9)
  generalize w.alloc (.cells (Gr.ops.map strV).toArray 9) = W at *
  have HB := Lib.hid hb
  by_cases hl : op < 1
  · have d1 : decide (op < 1) = true := decide_eq_true hl
    have HE : Hid (R = []) := Lib.hid (by rw [HR.out]; unfold signOf; rw [if_pos (.inl hl)])
    clear hb hrow hsp
    go_wp2_with fail
    go_ret
    exact ⟨by rw [HE.out]; rfl, HB.out⟩
  · have d1 : decide (op < 1) = false := decide_eq_false hl
    by_cases hg : 13 < op
    · have d2 : decide (13 < op) = true := decide_eq_true hg
      have HE : Hid (R = []) := Lib.hid (by rw [HR.out]; unfold signOf; rw [if_pos (.inr hg)])
      clear hb hrow hsp
      go_wp2_with fail
      go_ret
      exact ⟨by rw [HE.out]; rfl, HB.out⟩
    · have d2 : decide (13 < op) = false := decide_eq_false hg
      obtain ⟨k, hk⟩ : ∃ k : Nat, op - 1 = (k : Int) := ⟨(op - 1).toNat, by omega⟩
      have hk13 : k < Gr.ops.length := by have h2 : Gr.ops.length = 13 := rfl; omega
      have HE : Hid (R = Gr.ops[k]'hk13) := Lib.hid (by rw [HR.out]; unfold signOf; rw [if_neg (by omega), hk]; show Gr.ops.getD k [] = _; simp [List.getElem?_eq_getElem hk13])
      have hc := strs_cell hrow k hk13
      rw [strV_mk] at hc
      have k1 : (0 : Int) ≤ (k : Int) := by omega
      have k2 : (k : Int) < 13 := by omega
      have hw1 : wrap64 (op - 1) = (k : Int) := by unfold wrap64; omega
      have hw2 : IntKind.i64.wrap (op - 1) = (k : Int) := by rw [IntKind.wrap_i64]; omega
      have hw3 : wrap64 (k : Int) = (k : Int) := by unfold wrap64; omega
      clear hb hrow hsp
      go_wp2_with fail
      go_ret
      exact ⟨by rw [HE.out]; rfl, HB.out⟩
end Go.Proofs.YtljdphpbalioaaaGreatDoor
