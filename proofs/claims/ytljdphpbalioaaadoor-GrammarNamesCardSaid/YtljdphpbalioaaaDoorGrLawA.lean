/- Walks: awake; the reference's signs. -/
import Derived.Test.YtljdphpbalioaaaDoorGpE
import Derived.Test.YtljdphpbalioaaaDoorGrL
namespace Go.Proofs.YtljdphpbalioaaaDoor
open Go.RowKit

theorem tb_on {w w' : World} (h : Tb w.heap.size w) (hb : Below w.heap.size w w') : Tb w'.heap.size w' := fun w2 k => (h.below hb) w2 (k.mono hb.size)
theorem wf_i64' {n : Int} (h : (Lit.int .i64 n).wf = true) : -9223372036854775808 ≤ n ∧ n ≤ 9223372036854775807 := by
  simp [Lit.wf, IntKind.min, IntKind.max, IntKind.signed, IntKind.bits] at h
  omega
def exB : Bs := [109, 111, 100, 117, 108, 101, 32, 109, 32, 123, 32, 102, 117, 110, 99, 32, 102, 40, 97, 32, 105, 110, 116, 41, 32, 105, 110, 116, 32, 123, 32, 114, 101, 116, 117, 114, 110, 32, 40, 97, 32, 43, 32, 49, 41, 59, 32, 125, 32, 125]
theorem ex_ok : (parsed exB).1 = 0 := by kernel_rfl
theorem ex_len : (parsed exB).2.length = 9 := by kernel_rfl
theorem ex_some : (getA (parsed exB).2 8).isSome = true := by kernel_rfl
theorem ex_kind : (atN (parsed exB).2 8).kind = 15 := by kernel_rfl
theorem sign_ex : signOf 12 = [38, 38] := by kernel_rfl

set_option maxRecDepth 100000 in
set_option maxHeartbeats 1600000 in
theorem awake_any (w : World) (ht : Tb w.heap.size w) : Calls Tryd.prog 5 #[] w fun e w' => e = .returned (.bool true) ∧ Below w.heap.size w w' := by
  have HT := Lib.hid ht
  have HP := Lib.hid (parse_text exB w ht)
  clear ht
  go_enter Tryd.func5, Tryd.ntmps5
  go_wp2_with fail
  refine HP.out.mono ?_
  rintro e w1 ⟨hb1, h⟩
  rcases h with ⟨h1, -⟩ | ⟨-, ga, ba, rfl, har⟩
  · exact absurd ex_ok h1
  have HB1 := Lib.hid hb1
  have HAR := Lib.hid har
  unfold retP
  clear hb1 har HP
  go_wp2_with fail
  refine (arget_any ga ba (parsed exB).2 8 w1 HAR.out (by decide)).mono ?_
  rintro e w2 ⟨v', rfl, hown, hb2⟩
  obtain ⟨kv, rfl, hids, -⟩ := hown
  obtain ⟨ka, kc, rfl⟩ := hids.slice
  rw [ex_some]
  have HK := Lib.hid ex_kind
  obtain ⟨nd, hnd⟩ : ∃ n, n = atN (parsed exB).2 8 := ⟨_, rfl⟩
  rw [← hnd] at HK ⊢
  obtain ⟨L, hL⟩ : ∃ L, L = nd.kids.length := ⟨_, rfl⟩
  rw [← hL]
  have hb3 := bal (bre w2) (.cells #[.int .u8 nd.kind, .string nd.name, .int .i64 nd.num, .int .u8 nd.typ, .int .u64 nd.ref, .slice ka L kc] 38)
  have hr3 := heap_alloc_new w2 (.cells #[.int .u8 nd.kind, .string nd.name, .int .i64 nd.num, .int .u8 nd.typ, .int .u64 nd.ref, .slice ka L kc] 38)
  have c0 := cell_of_row _ _ 0 _ _ _ hr3
  replace c0 : (w2.alloc (.cells #[.int .u8 nd.kind, .string nd.name, .int .i64 nd.num, .int .u8 nd.typ, .int .u64 nd.ref, .slice ka L kc] 38)).cell? ⟨w2.heap.size, 0, none⟩ = some (.int .u8 15) := by rw [c0, HK.out]; rfl
  have HB2 := Lib.hid (btr hb2 hb3)
  have HC0 := Lib.hid c0
  unfold NdVal
  clear hL hnd hids hb2 hb3 hr3 c0 HK
  go_upto_region 3 with fail
  generalize w2.alloc (.cells #[.int .u8 nd.kind, .string nd.name, .int .i64 nd.num, .int .u8 nd.typ, .int .u64 nd.ref, .slice ka L kc] 38) = w3 at *
  have HB3 := Lib.hid (btr HB1.out HB2.out)
  have HAR3 := Lib.hid (HAR.out.below HB2.out)
  have HLEN := Lib.hid ex_len
  generalize w2.heap.size = n3 at *
  clear HB1 HB2 HAR
  have c0 := HC0.out
  go_wp2_with fail
  refine (arlen_any ga ba (parsed exB).2 w3 HAR3.out).mono ?_
  rintro e w4 ⟨rfl, hw⟩
  have hw' := hw.symm
  subst hw'
  clear hw
  rw [HLEN.out]
  go_wp2_with fail
  refine (sign_any 12 (by decide) (by decide) w3 (HT.out.below HB3.out).here.1).mono ?_
  rintro e w5 ⟨rfl, hb5⟩
  rw [sign_ex]
  have hm2 : ((mk8 [38, 38]).toList == [38, 38]) = true := by kernel_rfl
  have HB5 := Lib.hid (btr HB3.out hb5)
  clear hb5
  go_wp2_with fail
  go_ret
  exact ⟨rfl, HB5.out⟩

set_option maxRecDepth 10000 in
theorem rops_any (w : World) : Calls Tryd.prog 7 #[] w fun e w' => e = .returned (.slice (some ⟨w.heap.size, 0, none⟩) 13 13) ∧ w' = w.alloc (.cells (Gr.ops.map strV).toArray 9) := by
  go_enter Tryd.func7, Tryd.ntmps7
  go_wp2_with fail
  go_ret
  exact ⟨rfl, rfl⟩
theorem opNum_hit {x : Bs} {k : Nat} (hk : Gr.ops[k]? = some x) (hb : ∀ j, j < k → Gr.ops[j]? ≠ some x) : k + 1 = Gr.opNum x := by
  have h := idxS_hit hk hb
  have h2 := opNum_idx x
  omega
theorem opNum_miss {x : Bs} (hb : ∀ j, j < 13 → Gr.ops[j]? ≠ some x) : Gr.opNum x = 0 := by
  have h := idxS_miss (ls := Gr.ops) (x := x) fun j hj => hb j hj
  have h2 := opNum_idx x
  omega

set_option maxRecDepth 100000 in
set_option maxHeartbeats 800000 in
theorem rop_any (x : Bs) (w : World) : Calls Tryd.prog 10 #[.string (mk8 x)] w fun e w' => e = .returned (.int .i64 (Gr.opNum x : Nat)) ∧ Below w.heap.size w w' := by
  obtain ⟨R, hR⟩ : ∃ R, R = Gr.opNum x := ⟨_, rfl⟩
  rw [← hR]
  have HR := Lib.hid hR
  clear hR
  go_enter Tryd.func10, Tryd.ntmps10
  go_wp2_with fail
  refine (rops_any w).mono ?_
  rintro e w1 ⟨rfl, rfl⟩
  have hb := bal (bre w) (.cells (Gr.ops.map strV).toArray 9)
  have hrow := heap_alloc_new w (.cells (Gr.ops.map strV).toArray 9)
  generalize w.alloc (.cells (Gr.ops.map strV).toArray 9) = W at *
  have hc : ∀ j y, Gr.ops[j]? = some y → W.cell? ⟨w.heap.size, j, none⟩ = some (.string (mk8 y)) := fun j y hy => by
    have hj := (List.getElem?_eq_some_iff.1 hy).1
    rw [strs_cell hrow j hj, strV_mk]
    rw [List.getD_eq_getElem?_getD, hy]
    rfl
  have HB := Lib.hid hb
  have HC := Lib.hid hc
  clear hb hrow hc
  go_upto_region 2 with fail
  go_loopw [3, 4, 7] (fun _ _ i wr => ∃ k : Nat, k ≤ 13 ∧ i = .int .i64 k ∧ wr = W ∧ Hid (∀ j, j < k → Gr.ops[j]? ≠ some x)) (fun _ _ i _ => 13 - (intOf i).toNat)
  case atStart => exact ⟨0, by omega, rfl, rfl, Lib.hid fun j hj => absurd hj (Nat.not_lt_zero j)⟩
  case round =>
    obtain ⟨k, hk, rfl, rfl, hno⟩ := hrel
    by_cases hlt : k < 13
    · have d1 : decide ((k : Int) < 13) = true := decide_eq_true (by omega)
      have d1n : decide (k < 13) = true := decide_eq_true hlt
      obtain ⟨y, hy⟩ : ∃ y, Gr.ops[k]? = some y := ⟨_, List.getElem?_eq_getElem hlt⟩
      have hu := HC.out k y hy
      have HY := Lib.hid hy
      have k1 : (0 : Int) ≤ (k : Int) := by omega
      have k2 : (k : Int) < 13 := by omega
      have k3 : wrap64 ((k : Int) + 1) = ((k + 1 : Nat) : Int) := by unfold wrap64; omega
      clear hy
      by_cases hxy : y = x
      · subst hxy
        have HNO := Lib.hid (opNum_hit HY.out hno.out)
        have q1 : ((mk8 y).toList == (mk8 y).toList) = true := beq_self_eq_true _
        clear hno HY
        go_wp2
        go_ret
        exact ⟨by rw [HR.out, ← HNO.out]; first | rfl | simp, HB.out⟩
      · have q1 : ((mk8 y).toList == (mk8 x).toList) = false := beq_eq_false_iff_ne.2 (by rw [mk8_list, mk8_list]; exact hxy)
        have HNO : Hid (∀ j, j < k + 1 → Gr.ops[j]? ≠ some x) := Lib.hid fun j hj => by
          rcases Nat.lt_succ_iff_lt_or_eq.1 hj with h | rfl
          · exact hno.out j h
          · rw [HY.out]; intro e; cases e; exact hxy rfl
        clear hno HY
        go_wp2
        go_roundw
        case rel => exact ⟨k + 1, by omega, by go_num, by first | rfl | trivial, HNO⟩
        case measure => simp [intOf]; omega
    · have d1 : decide ((k : Int) < 13) = false := decide_eq_false (by omega)
      have d1n : decide (k < 13) = false := decide_eq_false hlt
      have e : Gr.opNum x = 0 := opNum_miss fun j hj => hno.out j (by omega)
      have HE := Lib.hid e
      clear e hno
      go_wp2
      go_ret
      exact ⟨by rw [HR.out, HE.out]; rfl, HB.out⟩

set_option maxRecDepth 100000 in
set_option maxHeartbeats 1600000 in
theorem signs_calls (op : Int) (h0 : -9223372036854775808 ≤ op) (h1 : op ≤ 9223372036854775807) (s : ByteArray) (x : Nat) (hx : x < 18446744073709551616) (w : World) (ht : Tb w.heap.size w) :
    Calls Tryd.prog 4 #[.int .i64 op, .string s, .int .u64 x] w fun e w' => e = .returned (.bool true) ∧ Below w.heap.size w w' := by
  have HT := Lib.hid ht
  obtain ⟨l, hl⟩ : ∃ l : Bs, s = mk8 l := ⟨s.data.toList, by cases s; rename_i d; cases d; rfl⟩
  subst hl
  have H0 := Lib.hid (And.intro h0 h1)
  have HX := Lib.hid hx
  clear ht h0 h1 hx
  obtain ⟨y, hy⟩ : ∃ y : Nat, y = max x 1 := ⟨_, rfl⟩
  have HY := Lib.hid hy
  have HSG := Lib.hid (fun w h => sign_any op H0.out.1 H0.out.2 w h)
  have HLE := Lib.hid (fun w => least_any x w)
  rw [← hy] at HLE
  obtain ⟨R, hR⟩ : ∃ R, R = signOf op := ⟨_, rfl⟩
  rw [← hR] at HSG
  have HR := Lib.hid hR
  clear hR hy
  go_enter Tryd.func4, Tryd.ntmps4
  go_wp2_with fail
  refine (awake_any w HT.out).mono ?_
  rintro e w1 ⟨rfl, hb1⟩
  have HB1 := Lib.hid hb1
  have HT1 := Lib.hid (tb_on HT.out hb1)
  clear hb1 HT
  have hin : (1 ≤ op ∧ op ≤ 13) ∨ (op < 1 ∨ 13 < op) := by omega
  rcases hin with ⟨i1, i2⟩ | i1
  · have d1 : decide (op ≥ 1) = true := decide_eq_true i1
    have d2 : decide (op ≤ 13) = true := decide_eq_true i2
    have d3 : decide (1 ≤ op) = true := decide_eq_true i1
    obtain ⟨k, rfl⟩ : ∃ k : Nat, op = (k : Int) + 1 := ⟨(op - 1).toNat, by omega⟩
    have hk : k < 13 := by omega
    obtain ⟨y2, hy2⟩ : ∃ y, Gr.ops[k]? = some y := ⟨_, List.getElem?_eq_getElem hk⟩
    have hRy : R = y2 := by
      rw [HR.out]
      unfold signOf
      rw [if_neg (by omega), List.getD_eq_getElem?_getD, show ((k : Int) + 1 - 1).toNat = k by omega, hy2]
      rfl
    subst hRy
    go_upto_region 5 with fail
    go_wp2_with fail
    refine (rops_any w1).mono ?_
    rintro e w2 ⟨rfl, rfl⟩
    have hb := bal (bre w1) (.cells (Gr.ops.map strV).toArray 9)
    have hrow := heap_alloc_new w1 (.cells (Gr.ops.map strV).toArray 9)
    generalize w1.alloc (.cells (Gr.ops.map strV).toArray 9) = W at *
    have hu : W.cell? ⟨w1.heap.size, k, none⟩ = some (.string (mk8 R)) := by
      rw [strs_cell hrow k hk, strV_mk, List.getD_eq_getElem?_getD, hy2]
      rfl
    have e1 : wrap64 ((k : Int) + 1 - 1) = (k : Int) := by unfold wrap64; omega
    have e2 : (0 : Int) ≤ (k : Int) := by omega
    have e3 : (k : Int) < 13 := by omega
    have HBW := Lib.hid (btr HB1.out hb)
    have HTW := Lib.hid (tb_on HT1.out hb)
    clear hb hrow hy2 HB1 HT1 HR
    go_wp2_with fail
    refine (HSG.out W HTW.out.here.1).mono ?_
    rintro e w3 ⟨rfl, hb3⟩
    have HB3 := Lib.hid (btr HBW.out hb3)
    have HT3 := Lib.hid (tb_on HTW.out hb3)
    have q1 : ((mk8 R).toList == (mk8 R).toList) = true := beq_self_eq_true _
    clear hb3 HBW HTW
    go_wp2_with fail
    refine (opnum_any l w3 HT3.out.here.1).mono ?_
    rintro e w4 ⟨rfl, hb4⟩
    have HB4 := Lib.hid (btr HB3.out hb4)
    clear hb4 HB3 HT3
    go_wp2_with fail
    refine (rop_any l w4).mono ?_
    rintro e w5 ⟨rfl, hb5⟩
    have HB5 := Lib.hid (btr HB4.out hb5)
    clear hb5 HB4
    go_wp2_with fail
    refine (HLE.out w5).mono ?_
    rintro e w6 ⟨rfl, hw⟩
    have hw' := hw.symm
    subst hw'
    clear hw
    have hm : ((y : Int) == max (x : Int) 1) = true := by have := HY.out; simp; omega
    go_wp2_with fail
    go_ret
    exact ⟨rfl, HB5.out⟩
  · have d1 : (decide (op ≥ 1) = false) ∨ (decide (op ≥ 1) = true ∧ decide (op ≤ 13) = false) := by
      rcases i1 with h | h
      · exact .inl (decide_eq_false (by omega))
      · exact .inr ⟨decide_eq_true (by omega), decide_eq_false (by omega)⟩
    have hR0 : R = [] := by
      rw [HR.out]
      unfold signOf
      rw [if_pos i1]
    subst hR0
    obtain ⟨W, hW⟩ : ∃ W, W = w1 := ⟨_, rfl⟩
    subst hW
    have HBW := HB1
    have HTW := HT1
    clear HB1 HT1 HR i1
    rcases d1 with d1 | ⟨d1, d2⟩
    all_goals
      go_wp2_with fail
      refine (HSG.out W HTW.out.here.1).mono ?_
      rintro e w3 ⟨rfl, hb3⟩
      have HB3 := Lib.hid (btr HBW.out hb3)
      have HT3 := Lib.hid (tb_on HTW.out hb3)
      have q1 : ((mk8 []).toList == []) = true := by kernel_rfl
      clear hb3 HBW HTW
      go_wp2_with fail
      refine (opnum_any l w3 HT3.out.here.1).mono ?_
      rintro e w4 ⟨rfl, hb4⟩
      have HB4 := Lib.hid (btr HB3.out hb4)
      clear hb4 HB3 HT3
      go_wp2_with fail
      refine (rop_any l w4).mono ?_
      rintro e w5 ⟨rfl, hb5⟩
      have HB5 := Lib.hid (btr HB4.out hb5)
      clear hb5 HB4
      go_wp2_with fail
      refine (HLE.out w5).mono ?_
      rintro e w6 ⟨rfl, hw⟩
      have hw' := hw.symm
      subst hw'
      clear hw
      have hm : ((y : Int) == max (x : Int) 1) = true := by have := HY.out; simp; omega
      go_wp2_with fail
      go_ret
      exact ⟨rfl, HB5.out⟩
end Go.Proofs.YtljdphpbalioaaaDoor
