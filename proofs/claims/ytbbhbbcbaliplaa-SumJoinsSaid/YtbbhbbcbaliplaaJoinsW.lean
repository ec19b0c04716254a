/- SumJoins, the walk. -/
import Derived.Test.YtbbhbbcbaliplaaJoins
import Derived.Deep.DeepCutAuto
namespace Go.Proofs.Ytbbhbbcbaliplaa
open Go.RowKit

set_option maxRecDepth 10000 in
set_option maxHeartbeats 1600000 in
theorem joins_calls (v : Value) (ls : List (List UInt8)) (sat : Nat) (turn : UInt8) (hat : sat < 65536) (w : World) (hv : Rows8 w v ls) :
    Calls Try.prog 4 #[v, .int .u16 sat, .int .u8 turn.toNat] w fun e w' => e = .returned (.bool true) ∧ Below w.heap.size w w' := by
  obtain ⟨a, c, rfl, hm, hc, _, hrow⟩ := id hv
  unfold maxLen at hm
  have HR := Lib.hid hrow
  clear hrow hv
  go_enter Try.func4, Try.ntmps4
  go_wp2_with fail
  refine (awake_any _).mono ?_
  rintro e w1 ⟨rfl, hb1⟩
  go_wp2_with fail
  go_loopw [7, 8, 9, 17] (fun own _ _ i wr => ∃ (k : Nat) (l : List (List UInt8)), k ≤ ls.length ∧ i = .int .i64 k ∧ Hid (l = few6 ls k) ∧ OwnRows 22 5 w.heap.size wr own l ∧ Below w.heap.size w wr) (fun _ _ _ i _ => ls.length - (intOf i).toNat)
  case atStart => exact ⟨0, [], by omega, rfl, Lib.hid (by simp [few6]), OwnRows.nil _ _ _ _, hb1⟩
  case round =>
    obtain ⟨k, l, hk, rfl, HL, hown, hb⟩ := hrel
    clear hb1
    by_cases hlt : k < ls.length
    · rcases HR.out with h0 | ⟨g, o, rfl, hcell⟩
      · subst h0; simp at hlt
      · obtain ⟨u, hu, hbu⟩ := hcell k _ (List.getElem?_eq_getElem hlt)
        clear hcell
        have hu' : wr.cell? ⟨g, o + k, none⟩ = some u := (hb.cell (block_lt_of_cell hu)).trans hu
        have hg' : g < wr.heap.size := block_lt_of_cell hu'
        have hbu' : Bytes wr u ls[k] := hbu.below hb
        have hnx := few6_next ls k hlt
        rw [← HL.out] at hnx
        have hlen6 : l.length ≤ 6 := by rw [HL.out]; exact (few6_len ls k).1
        clear hu hbu
        by_cases h6 : k < 6
        · rw [if_pos h6] at hnx
          have HN := Lib.hid hnx
          clear hnx
          generalize ls[k] = x at *
          go_wp2_with fail
          refine (cut_any _ x 60 (by omega) (by omega) _ hbu').mono ?_
          rintro e w2 ⟨v2, rfl, hown2, hb2⟩
          have h60 : (60 : Int).toNat = 60 := rfl
          rw [h60] at hown2
          obtain ⟨a2, c2, rfl, _, _, _, _⟩ := id hown2.bytes
          have hownA := hown.kept hb2
          have hownB : Own8 5 w.heap.size w2 _ _ := ownsRow_base hown2 hb.size
          have hbB := btr hb hb2
          generalize x.take 60 = y at *
          clear hown hown2 hb2 hu' hbu' hg' hb
          go_wp2_with (at_builtin; refine wpList_appRow rfl _ _ 34 22 5 (by decide) 24 rowR rfl w.heap.size _ l rfl hownA _ y hownB w2.heap.size rfl rfl (by omega) (by unfold maxLen; omega) hbB.size ?_; intro v' w3 h1 h3)
          have hb3 := hbB.trans h3
          clear h3 hownA hownB hbB
          go_wp2
          go_roundw
          case rel => exact ⟨k + 1, _, by omega, by go_num, Lib.hid HN.out.symm, h1, hb3⟩
          case measure => simp [intOf]; omega
        · rw [if_neg h6] at hnx
          have HN := Lib.hid hnx
          clear hnx
          go_wp2
          go_roundw
          case rel => exact ⟨k + 1, l, by omega, by go_num, Lib.hid HN.out.symm, hown, hb⟩
          case measure => simp [intOf]; omega
    · have e : k = ls.length := by omega
      subst e
      have hl6 := few6_len ls ls.length
      rw [← HL.out] at hl6
      clear HL HR
      obtain ⟨P, hP⟩ : ∃ P, P = l.flatten := ⟨_, rfl⟩
      have hPl : P.length ≤ 360 := by
        have := flat_len l 60 hl6.2
        have h2 := hl6.1
        rw [hP]
        omega
      have hrows := hown.rows
      go_wp2_with fail
      refine (join_any _ l _ hrows (by rw [← hP]; omega)).mono ?_
      rintro e w2 ⟨v2, rfl, hown2, hb2⟩
      rw [← hP] at hown2
      have HP := Lib.hid hP
      have hbw2 := btr hb hb2
      have hr2 := hrows.below hb2
      have hP2 := hown2.bytes
      clear hl6 hb hb2 hown hrows hown2 hP
      obtain ⟨a2, c2, rfl, _, _, _, _⟩ := id hP2
      go_wp2_with fail
      refine (make_any _).mono ?_
      rintro e w4 ⟨rfl, hb4⟩
      have hb4' := btr hbw2 hb4
      have hP4 := hP2.below hb4
      have hr4 := hr2.below hb4
      clear hb4 hP2 hbw2 hr2
      obtain ⟨z, hzs, hz⟩ := zero256
      have HZ := Lib.hid (hzs.trans size_tab.symm)
      clear hzs
      have hit2 : (Try.prog.info? 28).map (·.size) = some tab.size := by rw [size_tab]; exact info_tab
      have HI2 := Lib.hid hit2
      clear hit2
      have HB := Lib.hid tab_cells
      have hbW := bal hb4' (.cells tab 28)
      have hPW := hP4.below (bal (bre _) (.cells tab 28))
      have hrW := hr4.below (bal (bre _) (.cells tab 28))
      have hS : (w4.alloc (.cells tab 28)).rangeAt w4.heap.size 0 tabL := rangeAt_new w4 tabL _ _ rfl
      have hlt3 : w4.heap.size < (w4.alloc (.cells tab 28)).heap.size := by simp
      have HS := Lib.hid hS
      clear hP4 hb4' hr4 hS hlt
      go_upto_region 12 with (with_reducible refine wpList_store_new rfl 28 _ _ rfl z tab w4.heap.size rfl rfl rfl HI2.out HZ.out HB.out ?_)
      clear hz HZ HB HI2
      generalize w4.alloc (.cells tab 28) = W at *
      generalize w4.heap.size = B at *
      try simp only [Act.put]
      have hu := Lib.hid Try.underlying28
      have hit0 : (Try.prog.info? 28).map (·.size) = some tabL.length := by rw [size_tabL]; exact info_tab
      have hit := Lib.hid hit0
      clear hit0
      have hone : [P].flatten = P := by simp
      obtain ⟨t, ht⟩ : ∃ t, ((P.length : Int) == 0) = t := ⟨_, rfl⟩
      go_cut [45] (fun x45 w7 => x45 = .bool t ∧ Below W.heap.size W w7)
      case first =>
        refine wp_region_noPanic ?_
        refine wp_region_held_drew (S := fun w' => w'.rangeAt B 0 tabL) (by kernel_rfl) ?_ (fun hHeld => ?_)
        · exact HS.out
        -- 0: Op.load 28 (Operand.tmp 11)
        refine' wpAnyH_take (i := 0) (v := _) rfl (by kernel_rfl) (by kernel_rfl) (by kernel_rfl) (fun _ _ _ h => h) (yieldsIf_load_mid (by rfl) _ _ rfl _ _ rfl _ _ (fun w hSw => hSw) hu.out rfl hit.out) hHeld ?ra1
        simp only [List.getElem_toArray, List.getElem_cons_zero, Act.put, List.setIfInBounds_toArray, List.set_cons_zero, List.set_cons_succ]
        -- 1: Op.move (Operand.tmp 7)
        refine' wpAnyH_take (i := 1) (v := _) rfl (by kernel_rfl) (by kernel_rfl) (by kernel_rfl) (fun _ _ _ h => h) (Or.inl ⟨by rfl, fun w hSw => ?ha2⟩) hHeld ?ra2
        case ha2 => (simp only [List.getElem_toArray, List.getElem_cons_succ, List.getElem_cons_zero]; first | (go_simp; with_reducible rfl) | (go_simp; done) | rfl)
        simp only [List.getElem_toArray, List.getElem_cons_succ, List.getElem_cons_zero, Act.put, List.setIfInBounds_toArray, List.set_cons_zero, List.set_cons_succ]
        -- 3: Op.load 28 (Operand.tmp 11)
        refine' wpAnyH_take (i := 3) (v := _) rfl (by kernel_rfl) (by kernel_rfl) (by kernel_rfl) (fun _ _ _ h => h) (yieldsIf_load_mid (by rfl) _ _ rfl _ _ rfl _ _ (fun w hSw => hSw) hu.out rfl hit.out) hHeld ?ra3
        simp only [List.getElem_toArray, List.getElem_cons_succ, List.getElem_cons_zero, Act.put, List.setIfInBounds_toArray, List.set_cons_zero, List.set_cons_succ]
        -- 4: Op.move (Operand.tmp 10)
        refine' wpAnyH_take (i := 4) (v := _) rfl (by kernel_rfl) (by kernel_rfl) (by kernel_rfl) (fun _ _ _ h => h) (Or.inl ⟨by rfl, fun w hSw => ?ha4⟩) hHeld ?ra4
        case ha4 => (simp only [List.getElem_toArray, List.getElem_cons_succ, List.getElem_cons_zero]; first | (go_simp; with_reducible rfl) | (go_simp; done) | rfl)
        simp only [List.getElem_toArray, List.getElem_cons_succ, List.getElem_cons_zero, Act.put, List.setIfInBounds_toArray, List.set_cons_zero, List.set_cons_succ]
        refine' wpAnyH_ready (rs := [2, 5]) (by kernel_rfl) (by simp) (AllReadyH.cons (o := _) ?ia5_2 (fun K hK => ?sa5_2) (AllReadyH.cons (o := _) ?ia5_5 (fun K hK => ?sa5_5) AllReadyH.nil))
        case ia5_2 => (simp only [List.getElem?_toArray, List.getElem?_cons_succ, List.getElem?_cons_zero]; rfl)
        case ia5_5 => (simp only [List.getElem?_toArray, List.getElem?_cons_succ, List.getElem?_cons_zero]; rfl)
        case sa5_2 =>
          -- 2: Op.call { callee := Callee.value (Operand.func 12), args := 
          go_simp
          refine (sum_below _ l _ hrW.drew).mono ?_
          rintro e w5 ⟨rfl, hb5⟩
          have hbx := btr (bdr (bre W)) hb5
          rw [← HP.out]
          refine hK.out _ _ ?_ (fun hHeld => ?_)
          · exact rangeAt_keep HS.out hlt3 hbx
          clear hK
          try simp only [Act.put, List.setIfInBounds_toArray, List.set_cons_zero, List.set_cons_succ]
          refine' wpAnyH_ready (rs := [5]) (by kernel_rfl) (by simp) (AllReadyH.cons (o := _) ?ia6_5 (fun K hK => ?sa6_5) AllReadyH.nil)
          case ia6_5 => (simp only [List.getElem?_toArray, List.getElem?_cons_succ, List.getElem?_cons_zero]; rfl)
          -- 5: Op.buildSlice 34 1 #[(0, Operand.tmp 37)]
          go_simp
          refine hK.out _ _ ?_ (fun hHeld => ?_)
          · exact rangeAt_keep HS.out hlt3 (bal hbx _)
          clear hK
          try simp only [Act.put, List.setIfInBounds_toArray, List.set_cons_zero, List.set_cons_succ]
          refine' wpAnyH_ready (rs := [6]) (by kernel_rfl) (by simp) (AllReadyH.cons (o := _) ?ia7_6 (fun K hK => ?sa7_6) AllReadyH.nil)
          case ia7_6 => (simp only [List.getElem?_toArray, List.getElem?_cons_succ, List.getElem?_cons_zero]; rfl)
          -- 6: Op.call { callee := Callee.value (Operand.func 12), args := 
          go_simp
          refine (sum_below _ [P] _ (rows_lit1 _ _ P _ _ rfl (hPW.below hbx))).mono ?_
          rintro e w6 ⟨rfl, hb6⟩
          have hby := btr (bal hbx _) hb6
          rw [hone]
          refine hK.out _ _ ?_ (fun hHeld => ?_)
          · exact rangeAt_keep HS.out hlt3 hby
          clear hK
          try simp only [Act.put, List.setIfInBounds_toArray, List.set_cons_zero, List.set_cons_succ]
          -- 7: Op.binOp BinOp.neq 26 (Operand.tmp 35) (Operand.tmp 39) 26
          refine' wpAnyH_take (i := 7) (v := _) rfl (by kernel_rfl) (by kernel_rfl) (by kernel_rfl) (fun _ _ _ h => h) (Or.inl ⟨by rfl, fun w hSw => ?ha8⟩) hHeld ?ra8
          case ha8 => (simp only [List.getElem_toArray, List.getElem_cons_succ, List.getElem_cons_zero]; first | (go_simp; with_reducible rfl) | (go_simp; done) | rfl)
          simp only [List.getElem_toArray, List.getElem_cons_succ, List.getElem_cons_zero, Act.put, List.setIfInBounds_toArray, List.set_cons_zero, List.set_cons_succ]
          -- 8: Op.move (Operand.tmp 40)
          refine' wpAnyH_take (i := 8) (v := _) rfl (by kernel_rfl) (by kernel_rfl) (by kernel_rfl) (fun _ _ _ h => h) (Or.inl ⟨by rfl, fun w hSw => ?ha9⟩) hHeld ?ra9
          case ha9 => (simp only [List.getElem_toArray, List.getElem_cons_succ, List.getElem_cons_zero]; first | (go_simp; with_reducible rfl) | (go_simp; done) | rfl)
          simp only [List.getElem_toArray, List.getElem_cons_succ, List.getElem_cons_zero, Act.put, List.setIfInBounds_toArray, List.set_cons_zero, List.set_cons_succ]
          -- 9: Op.move (Operand.tmp 10)
          refine' wpAnyH_take (i := 9) (v := _) rfl (by kernel_rfl) (by kernel_rfl) (by kernel_rfl) (fun _ _ _ h => h) (Or.inl ⟨by rfl, fun w hSw => ?ha10⟩) hHeld ?ra10
          case ha10 => (simp only [List.getElem_toArray, List.getElem_cons_succ, List.getElem_cons_zero]; first | (go_simp; with_reducible rfl) | (go_simp; done) | rfl)
          simp only [List.getElem_toArray, List.getElem_cons_succ, List.getElem_cons_zero, Act.put, List.setIfInBounds_toArray, List.set_cons_zero, List.set_cons_succ]
          -- 10: Op.call { callee := Callee.builtin Builtin.len, args := #[Op
          refine' wpAnyH_take (i := 10) (v := _) rfl (by kernel_rfl) (by kernel_rfl) (by kernel_rfl) (fun _ _ _ h => h) (Or.inl ⟨by rfl, fun w hSw => ?ha11⟩) hHeld ?ra11
          case ha11 => (simp only [List.getElem_toArray, List.getElem_cons_succ, List.getElem_cons_zero]; first | (go_simp; with_reducible rfl) | (go_simp; done) | rfl)
          simp only [List.getElem_toArray, List.getElem_cons_succ, List.getElem_cons_zero, Act.put, List.setIfInBounds_toArray, List.set_cons_zero, List.set_cons_succ]
          -- 11: Op.binOp BinOp.eql 3 (Operand.tmp 43) (Operand.const (Value.
          refine' wpAnyH_take (i := 11) (v := _) rfl (by kernel_rfl) (by kernel_rfl) (by kernel_rfl) (fun _ _ _ h => h) (Or.inl ⟨by rfl, fun w hSw => ?ha12⟩) hHeld ?ra12
          case ha12 => (simp only [List.getElem_toArray, List.getElem_cons_succ, List.getElem_cons_zero]; first | (go_simp; with_reducible rfl) | (go_simp; done) | rfl)
          simp only [List.getElem_toArray, List.getElem_cons_succ, List.getElem_cons_zero, Act.put, List.setIfInBounds_toArray, List.set_cons_zero, List.set_cons_succ]
          -- 12: Op.pick (Operand.tmp 41) (Operand.const (Value.bool true)) (
          refine' wpAnyH_take (i := 12) (v := _) rfl (by kernel_rfl) (by kernel_rfl) (by kernel_rfl) (fun _ _ _ h => h) (Or.inl ⟨by rfl, fun w hSw => ?ha13⟩) hHeld ?ra13
          case ha13 => (simp only [List.getElem_toArray, List.getElem_cons_succ, List.getElem_cons_zero]; first | (go_simp; with_reducible rfl) | (go_simp; done) | rfl)
          simp only [List.getElem_toArray, List.getElem_cons_succ, List.getElem_cons_zero, Act.put, List.setIfInBounds_toArray, List.set_cons_zero, List.set_cons_succ]
          refine wpAnyH_done (by kernel_rfl) ?_ _
          refine NoPanic.normal ?_
          go_wp2_with fail
          go_meet
          exact ⟨rfl, hby⟩
        case sa5_5 =>
          -- 5: Op.buildSlice 34 1 #[(0, Operand.tmp 37)]
          go_simp
          refine hK.out _ _ ?_ (fun hHeld => ?_)
          · exact rangeAt_keep HS.out hlt3 (bdr (bal (bre W) _))
          clear hK
          try simp only [Act.put, List.setIfInBounds_toArray, List.set_cons_zero, List.set_cons_succ]
          refine' wpAnyH_ready (rs := [2]) (by kernel_rfl) (by simp) (AllReadyH.cons (o := _) ?ia14_2 (fun K hK => ?sa14_2) AllReadyH.nil)
          case ia14_2 => (simp only [List.getElem?_toArray, List.getElem?_cons_succ, List.getElem?_cons_zero]; rfl)
          -- 2: Op.call { callee := Callee.value (Operand.func 12), args := 
          go_simp
          refine (sum_below _ l _ (hrW.below (bdr (bal (bre W) _)))).mono ?_
          rintro e w5 ⟨rfl, hb5⟩
          have hbx := btr (bdr (bal (bre W) (.cells #[.slice a2 P.length c2] 22))) hb5
          have hrow := (Rows8.drew (rows_lit1 W _ P 22 _ rfl hPW)).below hb5
          rw [← HP.out]
          refine hK.out _ _ ?_ (fun hHeld => ?_)
          · exact rangeAt_keep HS.out hlt3 hbx
          clear hK
          try simp only [Act.put, List.setIfInBounds_toArray, List.set_cons_zero, List.set_cons_succ]
          refine' wpAnyH_ready (rs := [6]) (by kernel_rfl) (by simp) (AllReadyH.cons (o := _) ?ia15_6 (fun K hK => ?sa15_6) AllReadyH.nil)
          case ia15_6 => (simp only [List.getElem?_toArray, List.getElem?_cons_succ, List.getElem?_cons_zero]; rfl)
          -- 6: Op.call { callee := Callee.value (Operand.func 12), args := 
          go_simp
          refine (sum_below _ [P] _ hrow).mono ?_
          rintro e w6 ⟨rfl, hb6⟩
          have hby := btr hbx hb6
          rw [hone]
          refine hK.out _ _ ?_ (fun hHeld => ?_)
          · exact rangeAt_keep HS.out hlt3 hby
          clear hK
          try simp only [Act.put, List.setIfInBounds_toArray, List.set_cons_zero, List.set_cons_succ]
          -- 7: Op.binOp BinOp.neq 26 (Operand.tmp 35) (Operand.tmp 39) 26
          refine' wpAnyH_take (i := 7) (v := _) rfl (by kernel_rfl) (by kernel_rfl) (by kernel_rfl) (fun _ _ _ h => h) (Or.inl ⟨by rfl, fun w hSw => ?ha16⟩) hHeld ?ra16
          case ha16 => (simp only [List.getElem_toArray, List.getElem_cons_succ, List.getElem_cons_zero]; first | (go_simp; with_reducible rfl) | (go_simp; done) | rfl)
          simp only [List.getElem_toArray, List.getElem_cons_succ, List.getElem_cons_zero, Act.put, List.setIfInBounds_toArray, List.set_cons_zero, List.set_cons_succ]
          -- 8: Op.move (Operand.tmp 40)
          refine' wpAnyH_take (i := 8) (v := _) rfl (by kernel_rfl) (by kernel_rfl) (by kernel_rfl) (fun _ _ _ h => h) (Or.inl ⟨by rfl, fun w hSw => ?ha17⟩) hHeld ?ra17
          case ha17 => (simp only [List.getElem_toArray, List.getElem_cons_succ, List.getElem_cons_zero]; first | (go_simp; with_reducible rfl) | (go_simp; done) | rfl)
          simp only [List.getElem_toArray, List.getElem_cons_succ, List.getElem_cons_zero, Act.put, List.setIfInBounds_toArray, List.set_cons_zero, List.set_cons_succ]
          -- 9: Op.move (Operand.tmp 10)
          refine' wpAnyH_take (i := 9) (v := _) rfl (by kernel_rfl) (by kernel_rfl) (by kernel_rfl) (fun _ _ _ h => h) (Or.inl ⟨by rfl, fun w hSw => ?ha18⟩) hHeld ?ra18
          case ha18 => (simp only [List.getElem_toArray, List.getElem_cons_succ, List.getElem_cons_zero]; first | (go_simp; with_reducible rfl) | (go_simp; done) | rfl)
          simp only [List.getElem_toArray, List.getElem_cons_succ, List.getElem_cons_zero, Act.put, List.setIfInBounds_toArray, List.set_cons_zero, List.set_cons_succ]
          -- 10: Op.call { callee := Callee.builtin Builtin.len, args := #[Op
          refine' wpAnyH_take (i := 10) (v := _) rfl (by kernel_rfl) (by kernel_rfl) (by kernel_rfl) (fun _ _ _ h => h) (Or.inl ⟨by rfl, fun w hSw => ?ha19⟩) hHeld ?ra19
          case ha19 => (simp only [List.getElem_toArray, List.getElem_cons_succ, List.getElem_cons_zero]; first | (go_simp; with_reducible rfl) | (go_simp; done) | rfl)
          simp only [List.getElem_toArray, List.getElem_cons_succ, List.getElem_cons_zero, Act.put, List.setIfInBounds_toArray, List.set_cons_zero, List.set_cons_succ]
          -- 11: Op.binOp BinOp.eql 3 (Operand.tmp 43) (Operand.const (Value.
          refine' wpAnyH_take (i := 11) (v := _) rfl (by kernel_rfl) (by kernel_rfl) (by kernel_rfl) (fun _ _ _ h => h) (Or.inl ⟨by rfl, fun w hSw => ?ha20⟩) hHeld ?ra20
          case ha20 => (simp only [List.getElem_toArray, List.getElem_cons_succ, List.getElem_cons_zero]; first | (go_simp; with_reducible rfl) | (go_simp; done) | rfl)
          simp only [List.getElem_toArray, List.getElem_cons_succ, List.getElem_cons_zero, Act.put, List.setIfInBounds_toArray, List.set_cons_zero, List.set_cons_succ]
          -- 12: Op.pick (Operand.tmp 41) (Operand.const (Value.bool true)) (
          refine' wpAnyH_take (i := 12) (v := _) rfl (by kernel_rfl) (by kernel_rfl) (by kernel_rfl) (fun _ _ _ h => h) (Or.inl ⟨by rfl, fun w hSw => ?ha21⟩) hHeld ?ra21
          case ha21 => (simp only [List.getElem_toArray, List.getElem_cons_succ, List.getElem_cons_zero]; first | (go_simp; with_reducible rfl) | (go_simp; done) | rfl)
          simp only [List.getElem_toArray, List.getElem_cons_succ, List.getElem_cons_zero, Act.put, List.setIfInBounds_toArray, List.set_cons_zero, List.set_cons_succ]
          refine wpAnyH_done (by kernel_rfl) ?_ _
          refine NoPanic.normal ?_
          go_wp2_with fail
          go_meet
          exact ⟨rfl, hby⟩
      case rest =>
        obtain ⟨rfl, hb7⟩ := hcut
        have hP7 := hPW.below hb7
        have hr7 := hrW.below hb7
        have HS7 := Lib.hid (rangeAt_keep HS.out hlt3 hb7)
        have hlt7 : B < wc.heap.size := Nat.lt_of_lt_of_le hlt3 hb7.size
        have hbw7 := btr hbW hb7
        clear hPW hrW HS hb7 hbW
        cases t
        case true =>
          clear ht
          go_upto_region 13 with fail
          go_cut [6] (fun x6 w8 => x6 = .bool true ∧ Below wc.heap.size wc w8)
          case first =>
            refine wp_region_noPanic ?_
            refine wp_region_held_drew (S := fun w' => w'.rangeAt B 0 tabL) (by kernel_rfl) ?_ (fun hHeld => ?_)
            · exact HS7.out
            -- 0: Op.load 28 (Operand.tmp 11)
            refine' wpAnyH_take (i := 0) (v := _) rfl (by kernel_rfl) (by kernel_rfl) (by kernel_rfl) (fun _ _ _ h => h) (yieldsIf_load_mid (by rfl) _ _ rfl _ _ rfl _ _ (fun w hSw => hSw) hu.out rfl hit.out) hHeld ?rb1
            simp only [List.getElem_toArray, List.getElem_cons_zero, Act.put, List.setIfInBounds_toArray, List.set_cons_zero, List.set_cons_succ]
            -- 1: Op.move (Operand.tmp 7)
            refine' wpAnyH_take (i := 1) (v := _) rfl (by kernel_rfl) (by kernel_rfl) (by kernel_rfl) (fun _ _ _ h => h) (Or.inl ⟨by rfl, fun w hSw => ?hb2⟩) hHeld ?rb2
            case hb2 => (simp only [List.getElem_toArray, List.getElem_cons_succ, List.getElem_cons_zero]; first | (go_simp; with_reducible rfl) | (go_simp; done) | rfl)
            simp only [List.getElem_toArray, List.getElem_cons_succ, List.getElem_cons_zero, Act.put, List.setIfInBounds_toArray, List.set_cons_zero, List.set_cons_succ]
            -- 3: Op.load 28 (Operand.tmp 11)
            refine' wpAnyH_take (i := 3) (v := _) rfl (by kernel_rfl) (by kernel_rfl) (by kernel_rfl) (fun _ _ _ h => h) (yieldsIf_load_mid (by rfl) _ _ rfl _ _ rfl _ _ (fun w hSw => hSw) hu.out rfl hit.out) hHeld ?rb3
            simp only [List.getElem_toArray, List.getElem_cons_succ, List.getElem_cons_zero, Act.put, List.setIfInBounds_toArray, List.set_cons_zero, List.set_cons_succ]
            -- 4: Op.move (Operand.tmp 10)
            refine' wpAnyH_take (i := 4) (v := _) rfl (by kernel_rfl) (by kernel_rfl) (by kernel_rfl) (fun _ _ _ h => h) (Or.inl ⟨by rfl, fun w hSw => ?hb4⟩) hHeld ?rb4
            case hb4 => (simp only [List.getElem_toArray, List.getElem_cons_succ, List.getElem_cons_zero]; first | (go_simp; with_reducible rfl) | (go_simp; done) | rfl)
            simp only [List.getElem_toArray, List.getElem_cons_succ, List.getElem_cons_zero, Act.put, List.setIfInBounds_toArray, List.set_cons_zero, List.set_cons_succ]
            refine' wpAnyH_ready (rs := [2, 5]) (by kernel_rfl) (by simp) (AllReadyH.cons (o := _) ?ib5_2 (fun K hK => ?sb5_2) (AllReadyH.cons (o := _) ?ib5_5 (fun K hK => ?sb5_5) AllReadyH.nil))
            case ib5_2 => (simp only [List.getElem?_toArray, List.getElem?_cons_succ, List.getElem?_cons_zero]; rfl)
            case ib5_5 => (simp only [List.getElem?_toArray, List.getElem?_cons_succ, List.getElem?_cons_zero]; rfl)
            case sb5_2 =>
              -- 2: Op.call { callee := Callee.value (Operand.func 12), args := 
              go_simp
              refine (sum_below _ l _ hr7.drew).mono ?_
              rintro e w5 ⟨rfl, hb5⟩
              have hbx := btr (bdr (bre wc)) hb5
              rw [← HP.out]
              refine hK.out _ _ ?_ (fun hHeld => ?_)
              · exact rangeAt_keep HS7.out hlt7 hbx
              clear hK
              try simp only [Act.put, List.setIfInBounds_toArray, List.set_cons_zero, List.set_cons_succ]
              refine' wpAnyH_ready (rs := [5]) (by kernel_rfl) (by simp) (AllReadyH.cons (o := _) ?ib6_5 (fun K hK => ?sb6_5) AllReadyH.nil)
              case ib6_5 => (simp only [List.getElem?_toArray, List.getElem?_cons_succ, List.getElem?_cons_zero]; rfl)
              -- 5: Op.buildSlice 34 1 #[(0, Operand.tmp 50)]
              go_simp
              refine hK.out _ _ ?_ (fun hHeld => ?_)
              · exact rangeAt_keep HS7.out hlt7 (bal hbx _)
              clear hK
              try simp only [Act.put, List.setIfInBounds_toArray, List.set_cons_zero, List.set_cons_succ]
              refine' wpAnyH_ready (rs := [6]) (by kernel_rfl) (by simp) (AllReadyH.cons (o := _) ?ib7_6 (fun K hK => ?sb7_6) AllReadyH.nil)
              case ib7_6 => (simp only [List.getElem?_toArray, List.getElem?_cons_succ, List.getElem?_cons_zero]; rfl)
              -- 6: Op.call { callee := Callee.value (Operand.func 12), args := 
              go_simp
              refine (sum_below _ [P] _ (rows_lit1 _ _ P _ _ rfl (hP7.below hbx))).mono ?_
              rintro e w6 ⟨rfl, hb6⟩
              have hby := btr (bal hbx _) hb6
              rw [hone]
              refine hK.out _ _ ?_ (fun hHeld => ?_)
              · exact rangeAt_keep HS7.out hlt7 hby
              clear hK
              try simp only [Act.put, List.setIfInBounds_toArray, List.set_cons_zero, List.set_cons_succ]
              -- 7: Op.binOp BinOp.eql 26 (Operand.tmp 48) (Operand.tmp 52) 26
              refine' wpAnyH_take (i := 7) (v := _) rfl (by kernel_rfl) (by kernel_rfl) (by kernel_rfl) (fun _ _ _ h => h) (Or.inl ⟨by rfl, fun w hSw => ?hb8⟩) hHeld ?rb8
              case hb8 => (simp only [List.getElem_toArray, List.getElem_cons_succ, List.getElem_cons_zero]; first | (go_simp; with_reducible rfl) | (go_simp; done) | rfl)
              simp only [List.getElem_toArray, List.getElem_cons_succ, List.getElem_cons_zero, Act.put, List.setIfInBounds_toArray, List.set_cons_zero, List.set_cons_succ]
              -- 8: Op.assign (Operand.tmp 53)
              refine' wpAnyH_take (i := 8) (v := _) rfl (by kernel_rfl) (by kernel_rfl) (by kernel_rfl) (fun _ _ _ h => h) (Or.inl ⟨by rfl, fun w hSw => ?hb9⟩) hHeld ?rb9
              case hb9 => (simp only [List.getElem_toArray, List.getElem_cons_succ, List.getElem_cons_zero]; first | (go_simp; with_reducible rfl) | (go_simp; done) | rfl)
              simp only [List.getElem_toArray, List.getElem_cons_succ, List.getElem_cons_zero, Act.put, List.setIfInBounds_toArray, List.set_cons_zero, List.set_cons_succ]
              refine wpAnyH_done (by kernel_rfl) ?_ _
              refine NoPanic.normal ?_
              go_wp2_with fail
              go_meet
              exact ⟨rfl, hby⟩
            case sb5_5 =>
              -- 5: Op.buildSlice 34 1 #[(0, Operand.tmp 50)]
              go_simp
              refine hK.out _ _ ?_ (fun hHeld => ?_)
              · exact rangeAt_keep HS7.out hlt7 (bdr (bal (bre wc) _))
              clear hK
              try simp only [Act.put, List.setIfInBounds_toArray, List.set_cons_zero, List.set_cons_succ]
              refine' wpAnyH_ready (rs := [2]) (by kernel_rfl) (by simp) (AllReadyH.cons (o := _) ?ib10_2 (fun K hK => ?sb10_2) AllReadyH.nil)
              case ib10_2 => (simp only [List.getElem?_toArray, List.getElem?_cons_succ, List.getElem?_cons_zero]; rfl)
              -- 2: Op.call { callee := Callee.value (Operand.func 12), args := 
              go_simp
              refine (sum_below _ l _ (hr7.below (bdr (bal (bre wc) _)))).mono ?_
              rintro e w5 ⟨rfl, hb5⟩
              have hbx := btr (bdr (bal (bre wc) (.cells #[.slice a2 P.length c2] 22))) hb5
              have hrow := (Rows8.drew (rows_lit1 wc _ P 22 _ rfl hP7)).below hb5
              rw [← HP.out]
              refine hK.out _ _ ?_ (fun hHeld => ?_)
              · exact rangeAt_keep HS7.out hlt7 hbx
              clear hK
              try simp only [Act.put, List.setIfInBounds_toArray, List.set_cons_zero, List.set_cons_succ]
              refine' wpAnyH_ready (rs := [6]) (by kernel_rfl) (by simp) (AllReadyH.cons (o := _) ?ib11_6 (fun K hK => ?sb11_6) AllReadyH.nil)
              case ib11_6 => (simp only [List.getElem?_toArray, List.getElem?_cons_succ, List.getElem?_cons_zero]; rfl)
              -- 6: Op.call { callee := Callee.value (Operand.func 12), args := 
              go_simp
              refine (sum_below _ [P] _ hrow).mono ?_
              rintro e w6 ⟨rfl, hb6⟩
              have hby := btr hbx hb6
              rw [hone]
              refine hK.out _ _ ?_ (fun hHeld => ?_)
              · exact rangeAt_keep HS7.out hlt7 hby
              clear hK
              try simp only [Act.put, List.setIfInBounds_toArray, List.set_cons_zero, List.set_cons_succ]
              -- 7: Op.binOp BinOp.eql 26 (Operand.tmp 48) (Operand.tmp 52) 26
              refine' wpAnyH_take (i := 7) (v := _) rfl (by kernel_rfl) (by kernel_rfl) (by kernel_rfl) (fun _ _ _ h => h) (Or.inl ⟨by rfl, fun w hSw => ?hb12⟩) hHeld ?rb12
              case hb12 => (simp only [List.getElem_toArray, List.getElem_cons_succ, List.getElem_cons_zero]; first | (go_simp; with_reducible rfl) | (go_simp; done) | rfl)
              simp only [List.getElem_toArray, List.getElem_cons_succ, List.getElem_cons_zero, Act.put, List.setIfInBounds_toArray, List.set_cons_zero, List.set_cons_succ]
              -- 8: Op.assign (Operand.tmp 53)
              refine' wpAnyH_take (i := 8) (v := _) rfl (by kernel_rfl) (by kernel_rfl) (by kernel_rfl) (fun _ _ _ h => h) (Or.inl ⟨by rfl, fun w hSw => ?hb13⟩) hHeld ?rb13
              case hb13 => (simp only [List.getElem_toArray, List.getElem_cons_succ, List.getElem_cons_zero]; first | (go_simp; with_reducible rfl) | (go_simp; done) | rfl)
              simp only [List.getElem_toArray, List.getElem_cons_succ, List.getElem_cons_zero, Act.put, List.setIfInBounds_toArray, List.set_cons_zero, List.set_cons_succ]
              refine wpAnyH_done (by kernel_rfl) ?_ _
              refine NoPanic.normal ?_
              go_wp2_with fail
              go_meet
              exact ⟨rfl, hby⟩
          case rest =>
            obtain ⟨rfl, hb8⟩ := hcut
            have hfin := btr hbw7 hb8
            go_wp2
            go_ret
            exact ⟨rfl, hfin⟩
        case false =>
          have hPpos : 0 < P.length := by
            rcases Nat.eq_zero_or_pos P.length with h | h
            · rw [h] at ht; simp at ht
            · exact h
          clear ht
          obtain ⟨i, hi⟩ : ∃ i, i = sat % P.length := ⟨_, rfl⟩
          have hil : i < P.length := by rw [hi]; exact Nat.mod_lt _ hPpos
          have hmod : ((sat : Int) % (P.length : Int)) = (i : Int) := by rw [hi]; simp
          have hPi : (1 : Int) ≤ P.length := by omega
          have hPj : (P.length : Int) ≤ 360 := by omega
          clear hi
          go_wp2_with fail
          refine (join_any _ [P] _ (rows_lit1 _ _ P _ _ rfl hP7) (by rw [hone]; omega)).mono ?_
          rintro e w6 ⟨vq, rfl, hownq, hb6⟩
          rw [hone] at hownq
          have hbx := btr (bal (bre wc) (.cells #[.slice a2 P.length c2] 22)) hb6
          have hownq2 := ownsRow_base (base' := wc.heap.size) hownq (by simp)
          obtain ⟨gq, cq, rfl, hgb, _, _⟩ := Own8.shape hownq2 (by intro h; rw [h] at hPpos; simp at hPpos)
          obtain ⟨hcell, hfr⟩ := Own8.cell hownq2 i hil
          have hst := Own8.store hownq2 i (P[i] ^^^ turn)
          obtain ⟨Q, hQ⟩ : ∃ Q, Q = P.set i (P[i] ^^^ turn) := ⟨_, rfl⟩
          rw [← hQ] at hst
          have hxor : bits .xor .u8 (P[i].toNat : Int) (turn.toNat : Int) = (((P[i] ^^^ turn).toNat : Nat) : Int) := by
            rw [UInt8.toNat_xor]; exact u8_xor_nat _ _ P[i].toNat_lt turn.toNat_lt
          have hcmp : ((crc8 P : Int) == (crc8 Q : Int)) = ((turn.toNat : Int) == 0) := by
            rw [Bool.eq_iff_iff]
            simp only [beq_iff_eq, Int.natCast_inj, Int.natCast_eq_zero]
            constructor
            · intro h
              rw [hQ] at h
              rw [byte_seen P i hil turn h]; rfl
            · intro h
              have h0 : turn = 0 := UInt8.toNat_inj.1 (by rw [h]; rfl)
              rw [hQ, h0]; simp
          have hQl : Q.length = P.length := by rw [hQ, List.length_set]
          have HCMP := Lib.hid hcmp
          have HST := Lib.hid hst
          have HQL := Lib.hid hQl
          unfold B8 at hcell
          clear hst hcmp hQl hownq hownq2 hQ hb6
          go_upto_region 16 with fail
          have e8 : w6.setCell ⟨gq, i, none⟩ (B8 (P[i] ^^^ turn)) = w6.setCell ⟨gq, i, none⟩ (.int .u8 ((P[i].toNat ^^^ turn.toNat : Nat) : Int)) := by
            unfold B8; rw [UInt8.toNat_xor]
          have hst8 := HST.out
          rw [e8] at hst8
          generalize w6.setCell ⟨gq, i, none⟩ (.int .u8 ((P[i].toNat ^^^ turn.toNat : Nat) : Int)) = w8 at *
          clear e8 HST hcell hfr hxor
          have hb8 := hbx.trans hst8.2
          have hQ8 := hst8.1.bytes
          have hP8 := hP7.below hb8
          have HS8 := Lib.hid (rangeAt_keep HS7.out hlt7 hb8)
          have hlt8 : B < w8.heap.size := Nat.lt_of_lt_of_le hlt7 hb8.size
          have hbw8 := btr hbw7 hb8
          have hone2 : [Q].flatten = Q := by simp
          have hcmp := HCMP.out
          clear hst8 hP7 hr7 HS7 hbx hb8
          go_cut [6] (fun x6 w9 => x6 = .bool true ∧ Below w8.heap.size w8 w9)
          case first =>
            refine wp_region_noPanic ?_
            refine wp_region_held_drew (S := fun w' => w'.rangeAt B 0 tabL) (by kernel_rfl) ?_ (fun hHeld => ?_)
            · exact HS8.out
            -- 0: Op.load 28 (Operand.tmp 11)
            refine' wpAnyH_take (i := 0) (v := _) rfl (by kernel_rfl) (by kernel_rfl) (by kernel_rfl) (fun _ _ _ h => h) (yieldsIf_load_mid (by rfl) _ _ rfl _ _ rfl _ _ (fun w hSw => hSw) hu.out rfl hit.out) hHeld ?rc1
            simp only [List.getElem_toArray, List.getElem_cons_zero, Act.put, List.setIfInBounds_toArray, List.set_cons_zero, List.set_cons_succ]
            -- 1: Op.move (Operand.tmp 10)
            refine' wpAnyH_take (i := 1) (v := _) rfl (by kernel_rfl) (by kernel_rfl) (by kernel_rfl) (fun _ _ _ h => h) (Or.inl ⟨by rfl, fun w hSw => ?hc2⟩) hHeld ?rc2
            case hc2 => (simp only [List.getElem_toArray, List.getElem_cons_succ, List.getElem_cons_zero]; first | (go_simp; with_reducible rfl) | (go_simp; done) | rfl)
            simp only [List.getElem_toArray, List.getElem_cons_succ, List.getElem_cons_zero, Act.put, List.setIfInBounds_toArray, List.set_cons_zero, List.set_cons_succ]
            -- 4: Op.load 28 (Operand.tmp 11)
            refine' wpAnyH_take (i := 4) (v := _) rfl (by kernel_rfl) (by kernel_rfl) (by kernel_rfl) (fun _ _ _ h => h) (yieldsIf_load_mid (by rfl) _ _ rfl _ _ rfl _ _ (fun w hSw => hSw) hu.out rfl hit.out) hHeld ?rc3
            simp only [List.getElem_toArray, List.getElem_cons_succ, List.getElem_cons_zero, Act.put, List.setIfInBounds_toArray, List.set_cons_zero, List.set_cons_succ]
            -- 5: Op.move (Operand.tmp 12)
            refine' wpAnyH_take (i := 5) (v := _) rfl (by kernel_rfl) (by kernel_rfl) (by kernel_rfl) (fun _ _ _ h => h) (Or.inl ⟨by rfl, fun w hSw => ?hc4⟩) hHeld ?rc4
            case hc4 => (simp only [List.getElem_toArray, List.getElem_cons_succ, List.getElem_cons_zero]; first | (go_simp; with_reducible rfl) | (go_simp; done) | rfl)
            simp only [List.getElem_toArray, List.getElem_cons_succ, List.getElem_cons_zero, Act.put, List.setIfInBounds_toArray, List.set_cons_zero, List.set_cons_succ]
            -- 9: Op.move (Operand.tmp 2)
            refine' wpAnyH_take (i := 9) (v := _) rfl (by kernel_rfl) (by kernel_rfl) (by kernel_rfl) (fun _ _ _ h => h) (Or.inl ⟨by rfl, fun w hSw => ?hc5⟩) hHeld ?rc5
            case hc5 => (simp only [List.getElem_toArray, List.getElem_cons_succ, List.getElem_cons_zero]; first | (go_simp; with_reducible rfl) | (go_simp; done) | rfl)
            simp only [List.getElem_toArray, List.getElem_cons_succ, List.getElem_cons_zero, Act.put, List.setIfInBounds_toArray, List.set_cons_zero, List.set_cons_succ]
            -- 10: Op.binOp BinOp.eql 5 (Operand.tmp 77) (Operand.const (Value.
            refine' wpAnyH_take (i := 10) (v := _) rfl (by kernel_rfl) (by kernel_rfl) (by kernel_rfl) (fun _ _ _ h => h) (Or.inl ⟨by rfl, fun w hSw => ?hc6⟩) hHeld ?rc6
            case hc6 => (simp only [List.getElem_toArray, List.getElem_cons_succ, List.getElem_cons_zero]; first | (go_simp; with_reducible rfl) | (go_simp; done) | rfl)
            simp only [List.getElem_toArray, List.getElem_cons_succ, List.getElem_cons_zero, Act.put, List.setIfInBounds_toArray, List.set_cons_zero, List.set_cons_succ]
            refine' wpAnyH_ready (rs := [2, 6]) (by kernel_rfl) (by simp) (AllReadyH.cons (o := _) ?ic7_2 (fun K hK => ?sc7_2) (AllReadyH.cons (o := _) ?ic7_6 (fun K hK => ?sc7_6) AllReadyH.nil))
            case ic7_2 => (simp only [List.getElem?_toArray, List.getElem?_cons_succ, List.getElem?_cons_zero]; rfl)
            case ic7_6 => (simp only [List.getElem?_toArray, List.getElem?_cons_succ, List.getElem?_cons_zero]; rfl)
            case sc7_2 =>
              -- 2: Op.buildSlice 34 1 #[(0, Operand.tmp 69)]
              go_simp
              refine hK.out _ _ ?_ (fun hHeld => ?_)
              · exact rangeAt_keep HS8.out hlt8 (bdr (bal (bre w8) _))
              clear hK
              try simp only [Act.put, List.setIfInBounds_toArray, List.set_cons_zero, List.set_cons_succ]
              refine' wpAnyH_ready (rs := [3, 6]) (by kernel_rfl) (by simp) (AllReadyH.cons (o := _) ?ic8_3 (fun K hK => ?sc8_3) (AllReadyH.cons (o := _) ?ic8_6 (fun K hK => ?sc8_6) AllReadyH.nil))
              case ic8_3 => (simp only [List.getElem?_toArray, List.getElem?_cons_succ, List.getElem?_cons_zero]; rfl)
              case ic8_6 => (simp only [List.getElem?_toArray, List.getElem?_cons_succ, List.getElem?_cons_zero]; rfl)
              case sc8_3 =>
                -- 3: Op.call { callee := Callee.value (Operand.func 12), args := 
                go_simp
                refine (sum_below _ [P] _ (Rows8.drew (rows_lit1 _ _ P _ _ rfl hP8))).mono ?_
                rintro e w5 ⟨rfl, hb5⟩
                have hbx := btr (bdr (bal (bre w8) (.cells #[.slice a2 P.length c2] 22))) hb5
                rw [hone]
                refine hK.out _ _ ?_ (fun hHeld => ?_)
                · exact rangeAt_keep HS8.out hlt8 hbx
                clear hK
                try simp only [Act.put, List.setIfInBounds_toArray, List.set_cons_zero, List.set_cons_succ]
                refine' wpAnyH_ready (rs := [6]) (by kernel_rfl) (by simp) (AllReadyH.cons (o := _) ?ic9_6 (fun K hK => ?sc9_6) AllReadyH.nil)
                case ic9_6 => (simp only [List.getElem?_toArray, List.getElem?_cons_succ, List.getElem?_cons_zero]; rfl)
                -- 6: Op.buildSlice 34 1 #[(0, Operand.tmp 73)]
                go_simp
                refine hK.out _ _ ?_ (fun hHeld => ?_)
                · exact rangeAt_keep HS8.out hlt8 (bal hbx _)
                clear hK
                try simp only [Act.put, List.setIfInBounds_toArray, List.set_cons_zero, List.set_cons_succ]
                refine' wpAnyH_ready (rs := [7]) (by kernel_rfl) (by simp) (AllReadyH.cons (o := _) ?ic10_7 (fun K hK => ?sc10_7) AllReadyH.nil)
                case ic10_7 => (simp only [List.getElem?_toArray, List.getElem?_cons_succ, List.getElem?_cons_zero]; rfl)
                -- 7: Op.call { callee := Callee.value (Operand.func 12), args := 
                go_simp
                refine (sum_below _ [Q] _ (rows_lit1 _ _ Q _ _ rfl (hQ8.below hbx))).mono ?_
                rintro e w6 ⟨rfl, hb6⟩
                have hby := btr (bal hbx _) hb6
                rw [hone2]
                refine hK.out _ _ ?_ (fun hHeld => ?_)
                · exact rangeAt_keep HS8.out hlt8 hby
                clear hK
                try simp only [Act.put, List.setIfInBounds_toArray, List.set_cons_zero, List.set_cons_succ]
                -- 8: Op.binOp BinOp.eql 26 (Operand.tmp 71) (Operand.tmp 75) 26
                refine' wpAnyH_take (i := 8) (v := _) rfl (by kernel_rfl) (by kernel_rfl) (by kernel_rfl) (fun _ _ _ h => h) (Or.inl ⟨by rfl, fun w hSw => ?hc11⟩) hHeld ?rc11
                case hc11 => (simp only [List.getElem_toArray, List.getElem_cons_succ, List.getElem_cons_zero]; first | (go_simp; with_reducible rfl) | (go_simp; done) | rfl)
                simp only [List.getElem_toArray, List.getElem_cons_succ, List.getElem_cons_zero, Act.put, List.setIfInBounds_toArray, List.set_cons_zero, List.set_cons_succ]
                -- 11: Op.binOp BinOp.eql 4 (Operand.tmp 76) (Operand.tmp 78) 4
                refine' wpAnyH_take (i := 11) (v := _) rfl (by kernel_rfl) (by kernel_rfl) (by kernel_rfl) (fun _ _ _ h => h) (Or.inl ⟨by rfl, fun w hSw => ?hc12⟩) hHeld ?rc12
                case hc12 => (simp only [List.getElem_toArray, List.getElem_cons_succ, List.getElem_cons_zero]; first | (go_simp; with_reducible rfl) | (go_simp; done) | rfl)
                simp only [List.getElem_toArray, List.getElem_cons_succ, List.getElem_cons_zero, Act.put, List.setIfInBounds_toArray, List.set_cons_zero, List.set_cons_succ]
                -- 12: Op.assign (Operand.tmp 79)
                refine' wpAnyH_take (i := 12) (v := _) rfl (by kernel_rfl) (by kernel_rfl) (by kernel_rfl) (fun _ _ _ h => h) (Or.inl ⟨by rfl, fun w hSw => ?hc13⟩) hHeld ?rc13
                case hc13 => (simp only [List.getElem_toArray, List.getElem_cons_succ, List.getElem_cons_zero]; first | (go_simp; with_reducible rfl) | (go_simp; done) | rfl)
                simp only [List.getElem_toArray, List.getElem_cons_succ, List.getElem_cons_zero, Act.put, List.setIfInBounds_toArray, List.set_cons_zero, List.set_cons_succ]
                refine wpAnyH_done (by kernel_rfl) ?_ _
                refine NoPanic.normal ?_
                go_wp2_with fail
                go_meet
                exact ⟨rfl, hby⟩
              case sc8_6 =>
                -- 6: Op.buildSlice 34 1 #[(0, Operand.tmp 73)]
                go_simp
                refine hK.out _ _ ?_ (fun hHeld => ?_)
                · exact rangeAt_keep HS8.out hlt8 (bdr (bal (bal (bre w8) _) _))
                clear hK
                try simp only [Act.put, List.setIfInBounds_toArray, List.set_cons_zero, List.set_cons_succ]
                refine' wpAnyH_ready (rs := [3]) (by kernel_rfl) (by simp) (AllReadyH.cons (o := _) ?ic14_3 (fun K hK => ?sc14_3) AllReadyH.nil)
                case ic14_3 => (simp only [List.getElem?_toArray, List.getElem?_cons_succ, List.getElem?_cons_zero]; rfl)
                -- 3: Op.call { callee := Callee.value (Operand.func 12), args := 
                go_simp
                refine (sum_below _ [P] _ (Rows8.drew ((rows_lit1 w8 _ P _ _ rfl hP8).below (bal (bre _) _)))).mono ?_
                rintro e w5 ⟨rfl, hb5⟩
                have hbx := btr (bdr (bal (bal (bre w8) (.cells #[.slice a2 P.length c2] 22)) (.cells #[.slice (some ⟨gq, 0, none⟩) P.length cq] 22))) hb5
                have hrow := (Rows8.drew (rows_lit1 (w8.alloc (.cells #[.slice a2 P.length c2] 22)) _ Q 22 (w8.heap.size + 1) (by simp) (hQ8.below (bal (bre _) _)))).below hb5
                rw [hone]
                refine hK.out _ _ ?_ (fun hHeld => ?_)
                · exact rangeAt_keep HS8.out hlt8 hbx
                clear hK
                try simp only [Act.put, List.setIfInBounds_toArray, List.set_cons_zero, List.set_cons_succ]
                refine' wpAnyH_ready (rs := [7]) (by kernel_rfl) (by simp) (AllReadyH.cons (o := _) ?ic15_7 (fun K hK => ?sc15_7) AllReadyH.nil)
                case ic15_7 => (simp only [List.getElem?_toArray, List.getElem?_cons_succ, List.getElem?_cons_zero]; rfl)
                -- 7: Op.call { callee := Callee.value (Operand.func 12), args := 
                go_simp
                refine (sum_below _ [Q] _ hrow).mono ?_
                rintro e w6 ⟨rfl, hb6⟩
                have hby := btr hbx hb6
                rw [hone2]
                refine hK.out _ _ ?_ (fun hHeld => ?_)
                · exact rangeAt_keep HS8.out hlt8 hby
                clear hK
                try simp only [Act.put, List.setIfInBounds_toArray, List.set_cons_zero, List.set_cons_succ]
                -- 8: Op.binOp BinOp.eql 26 (Operand.tmp 71) (Operand.tmp 75) 26
                refine' wpAnyH_take (i := 8) (v := _) rfl (by kernel_rfl) (by kernel_rfl) (by kernel_rfl) (fun _ _ _ h => h) (Or.inl ⟨by rfl, fun w hSw => ?hc16⟩) hHeld ?rc16
                case hc16 => (simp only [List.getElem_toArray, List.getElem_cons_succ, List.getElem_cons_zero]; first | (go_simp; with_reducible rfl) | (go_simp; done) | rfl)
                simp only [List.getElem_toArray, List.getElem_cons_succ, List.getElem_cons_zero, Act.put, List.setIfInBounds_toArray, List.set_cons_zero, List.set_cons_succ]
                -- 11: Op.binOp BinOp.eql 4 (Operand.tmp 76) (Operand.tmp 78) 4
                refine' wpAnyH_take (i := 11) (v := _) rfl (by kernel_rfl) (by kernel_rfl) (by kernel_rfl) (fun _ _ _ h => h) (Or.inl ⟨by rfl, fun w hSw => ?hc17⟩) hHeld ?rc17
                case hc17 => (simp only [List.getElem_toArray, List.getElem_cons_succ, List.getElem_cons_zero]; first | (go_simp; with_reducible rfl) | (go_simp; done) | rfl)
                simp only [List.getElem_toArray, List.getElem_cons_succ, List.getElem_cons_zero, Act.put, List.setIfInBounds_toArray, List.set_cons_zero, List.set_cons_succ]
                -- 12: Op.assign (Operand.tmp 79)
                refine' wpAnyH_take (i := 12) (v := _) rfl (by kernel_rfl) (by kernel_rfl) (by kernel_rfl) (fun _ _ _ h => h) (Or.inl ⟨by rfl, fun w hSw => ?hc18⟩) hHeld ?rc18
                case hc18 => (simp only [List.getElem_toArray, List.getElem_cons_succ, List.getElem_cons_zero]; first | (go_simp; with_reducible rfl) | (go_simp; done) | rfl)
                simp only [List.getElem_toArray, List.getElem_cons_succ, List.getElem_cons_zero, Act.put, List.setIfInBounds_toArray, List.set_cons_zero, List.set_cons_succ]
                refine wpAnyH_done (by kernel_rfl) ?_ _
                refine NoPanic.normal ?_
                go_wp2_with fail
                go_meet
                exact ⟨rfl, hby⟩
            case sc7_6 =>
              -- 6: Op.buildSlice 34 1 #[(0, Operand.tmp 73)]
              go_simp
              refine hK.out _ _ ?_ (fun hHeld => ?_)
              · exact rangeAt_keep HS8.out hlt8 (bdr (bal (bre w8) _))
              clear hK
              try simp only [Act.put, List.setIfInBounds_toArray, List.set_cons_zero, List.set_cons_succ]
              refine' wpAnyH_ready (rs := [2]) (by kernel_rfl) (by simp) (AllReadyH.cons (o := _) ?ic19_2 (fun K hK => ?sc19_2) AllReadyH.nil)
              case ic19_2 => (simp only [List.getElem?_toArray, List.getElem?_cons_succ, List.getElem?_cons_zero]; rfl)
              -- 2: Op.buildSlice 34 1 #[(0, Operand.tmp 69)]
              go_simp
              refine hK.out _ _ ?_ (fun hHeld => ?_)
              · exact rangeAt_keep HS8.out hlt8 (bdr (bal (bal (bre w8) _) _))
              clear hK
              try simp only [Act.put, List.setIfInBounds_toArray, List.set_cons_zero, List.set_cons_succ]
              refine' wpAnyH_ready (rs := [3]) (by kernel_rfl) (by simp) (AllReadyH.cons (o := _) ?ic20_3 (fun K hK => ?sc20_3) AllReadyH.nil)
              case ic20_3 => (simp only [List.getElem?_toArray, List.getElem?_cons_succ, List.getElem?_cons_zero]; rfl)
              -- 3: Op.call { callee := Callee.value (Operand.func 12), args := 
              go_simp
              refine (sum_below _ [P] _ (Rows8.drew (rows_lit1 (w8.alloc (.cells #[.slice (some ⟨gq, 0, none⟩) P.length cq] 22)) _ P 22 (w8.heap.size + 1) (by simp) (hP8.below (bal (bre _) _))))).mono ?_
              rintro e w5 ⟨rfl, hb5⟩
              have hbx := btr (bdr (bal (bal (bre w8) (.cells #[.slice (some ⟨gq, 0, none⟩) P.length cq] 22)) (.cells #[.slice a2 P.length c2] 22))) hb5
              have hrow := (Rows8.drew ((rows_lit1 w8 _ Q 22 _ rfl hQ8).below (bal (bre _) (.cells #[.slice a2 P.length c2] 22)))).below hb5
              rw [hone]
              refine hK.out _ _ ?_ (fun hHeld => ?_)
              · exact rangeAt_keep HS8.out hlt8 hbx
              clear hK
              try simp only [Act.put, List.setIfInBounds_toArray, List.set_cons_zero, List.set_cons_succ]
              refine' wpAnyH_ready (rs := [7]) (by kernel_rfl) (by simp) (AllReadyH.cons (o := _) ?ic21_7 (fun K hK => ?sc21_7) AllReadyH.nil)
              case ic21_7 => (simp only [List.getElem?_toArray, List.getElem?_cons_succ, List.getElem?_cons_zero]; rfl)
              -- 7: Op.call { callee := Callee.value (Operand.func 12), args := 
              go_simp
              refine (sum_below _ [Q] _ hrow).mono ?_
              rintro e w6 ⟨rfl, hb6⟩
              have hby := btr hbx hb6
              rw [hone2]
              refine hK.out _ _ ?_ (fun hHeld => ?_)
              · exact rangeAt_keep HS8.out hlt8 hby
              clear hK
              try simp only [Act.put, List.setIfInBounds_toArray, List.set_cons_zero, List.set_cons_succ]
              -- 8: Op.binOp BinOp.eql 26 (Operand.tmp 71) (Operand.tmp 75) 26
              refine' wpAnyH_take (i := 8) (v := _) rfl (by kernel_rfl) (by kernel_rfl) (by kernel_rfl) (fun _ _ _ h => h) (Or.inl ⟨by rfl, fun w hSw => ?hc22⟩) hHeld ?rc22
              case hc22 => (simp only [List.getElem_toArray, List.getElem_cons_succ, List.getElem_cons_zero]; first | (go_simp; with_reducible rfl) | (go_simp; done) | rfl)
              simp only [List.getElem_toArray, List.getElem_cons_succ, List.getElem_cons_zero, Act.put, List.setIfInBounds_toArray, List.set_cons_zero, List.set_cons_succ]
              -- 11: Op.binOp BinOp.eql 4 (Operand.tmp 76) (Operand.tmp 78) 4
              refine' wpAnyH_take (i := 11) (v := _) rfl (by kernel_rfl) (by kernel_rfl) (by kernel_rfl) (fun _ _ _ h => h) (Or.inl ⟨by rfl, fun w hSw => ?hc23⟩) hHeld ?rc23
              case hc23 => (simp only [List.getElem_toArray, List.getElem_cons_succ, List.getElem_cons_zero]; first | (go_simp; with_reducible rfl) | (go_simp; done) | rfl)
              simp only [List.getElem_toArray, List.getElem_cons_succ, List.getElem_cons_zero, Act.put, List.setIfInBounds_toArray, List.set_cons_zero, List.set_cons_succ]
              -- 12: Op.assign (Operand.tmp 79)
              refine' wpAnyH_take (i := 12) (v := _) rfl (by kernel_rfl) (by kernel_rfl) (by kernel_rfl) (fun _ _ _ h => h) (Or.inl ⟨by rfl, fun w hSw => ?hc24⟩) hHeld ?rc24
              case hc24 => (simp only [List.getElem_toArray, List.getElem_cons_succ, List.getElem_cons_zero]; first | (go_simp; with_reducible rfl) | (go_simp; done) | rfl)
              simp only [List.getElem_toArray, List.getElem_cons_succ, List.getElem_cons_zero, Act.put, List.setIfInBounds_toArray, List.set_cons_zero, List.set_cons_succ]
              refine wpAnyH_done (by kernel_rfl) ?_ _
              refine NoPanic.normal ?_
              go_wp2_with fail
              go_meet
              exact ⟨rfl, hby⟩
          case rest =>
            obtain ⟨rfl, hb9⟩ := hcut
            have hfin := btr hbw8 hb9
            go_wp2
            go_ret
            exact ⟨rfl, hfin⟩
end Go.Proofs.Ytbbhbbcbaliplaa
