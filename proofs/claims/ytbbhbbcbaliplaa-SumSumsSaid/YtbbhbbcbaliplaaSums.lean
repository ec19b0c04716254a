/- SumSums: of any text, in whatever parts, the sum is the standard's; byte by byte too. -/
import Derived.Test.YtbbhbbcbaliplaaAwake
import Derived.Test.YtbbhbbcbaliplaaOpen
namespace Go.Proofs.Ytbbhbbcbaliplaa
open Go.RowKit

theorem un32 (n : Int) : Op.unary .xor (.int .u32 n) = pure (.int .u32 (bits .xor .u32 IntKind.u32.max n)) := by
  simp [Op.unary, Op.intBits, IntKind.signed, bits]

set_option maxRecDepth 10000 in
set_option maxHeartbeats 800000 in
theorem sums_calls (v : Value) (p : List UInt8) (cut : Nat) (hcut : cut < 65536) (w : World) (hv : Bytes w v p) :
    Calls Try.prog 3 #[v, .int .u16 cut] w fun e w' => e = .returned (.bool true) ∧ Below w.heap.size w w' := by
  go_enter Try.func3, Try.ntmps3
  go_wp2_with fail
  refine (awake_any _).mono ?_
  rintro e w1 ⟨rfl, hb1⟩
  have hv1 := hv.below hb1
  go_wp2_with fail
  refine (cut_any _ p 300 (by omega) (by omega) _ hv1).mono ?_
  rintro e w2 ⟨v2, rfl, hown, hb2⟩
  have hb2' : Below w.heap.size w w2 := hb1.trans (hb2.mono hb1.size)
  have hq2 := hown.bytes
  obtain ⟨q, hq⟩ : ∃ q, q = p.take (300 : Int).toNat := ⟨_, rfl⟩
  rw [← hq] at hq2
  have hql : q.length ≤ 300 := by rw [hq]; simp; omega
  clear hb1 hb2 hv hv1 hown hq
  go_wp2_with fail
  refine (make_any _).mono ?_
  rintro e w3 ⟨rfl, hb3⟩
  have hb3' : Below w.heap.size w w3 := hb2'.trans (hb3.mono hb2'.size)
  have hq3 := hq2.below hb3
  clear hb3 hb2' hq2
  obtain ⟨z, hzs, hz⟩ := zero256
  have HZ := Lib.hid (hzs.trans size_tab.symm)
  clear hzs
  have hit : (Try.prog.info? 28).map (·.size) = some tab.size := by rw [size_tab]; exact info_tab
  have HI := Lib.hid hit
  clear hit
  have HB := Lib.hid tab_cells
  obtain ⟨a, c, rfl, hm, hc, hnil, hrow⟩ := id hq3
  have HR := Lib.hid hrow
  clear hrow
  go_wp2_with (first | (with_reducible refine wpList_store_new rfl 28 _ _ rfl z tab w3.heap.size rfl rfl rfl HI.out HZ.out HB.out ?_) | (with_reducible refine wpList_min rfl _ _ _ rfl _ _ _ rfl rfl ?_; intro r hr))
  obtain ⟨k, hkq, rfl⟩ : ∃ k : Nat, k ≤ q.length ∧ r = k := by
    have := hr.out
    split at this
    · exact ⟨q.length, Nat.le_refl _, this⟩
    · exact ⟨cut, by omega, this⟩
  have hb4 : Below w.heap.size w (w3.alloc (.cells tab 28)) := hb3'.alloc hb3'.size _
  have hq4 : Bytes (w3.alloc (.cells tab 28)) (.slice a q.length c) q := hq3.below ((Below.refl _ _).alloc (Nat.le_refl _) _)
  have hS : (w3.alloc (.cells tab 28)).rangeAt w3.heap.size 0 tabL := rangeAt_new w3 tabL _ _ rfl
  have hlt3 : w3.heap.size < (w3.alloc (.cells tab 28)).heap.size := by simp
  clear hr HR hb3' hq3 hz HB HZ HI hnil
  generalize w3.alloc (.cells tab 28) = W at *
  generalize w3.heap.size = B at *
  obtain ⟨_, _, e1, _, _, hnil, hrow⟩ := id hq4
  cases e1
  have HR := Lib.hid hrow
  clear hrow
  unfold maxLen at hm
  go_loop [7, 9, 23] (fun c _ i => ∃ j s : Nat, j ≤ q.length ∧ i = .int .i64 j ∧ s < 4294967296 ∧ Hid (s = st (q.take j)) ∧ c = .int .u32 s) (fun _ _ i => q.length - (intOf i).toNat)
  case atStart => exact ⟨0, 4294967295, by omega, rfl, by omega, Lib.hid rfl, rfl⟩
  case round =>
    obtain ⟨j, s, hj, rfl, hs, HS, rfl⟩ := hrel
    by_cases hlt : j < q.length
    · rcases HR.out with h0 | ⟨g, o, rfl, hcell⟩
      · subst h0; simp at hlt
      · obtain ⟨_, hu, rfl⟩ := hcell j _ (List.getElem?_eq_getElem hlt)
        clear hcell
        unfold B8 at hu
        have hts := st_snoc (q.take j) q[j]
        rw [← take_snoc_u8 _ _ hlt, ← HS.out] at hts
        have HT := Lib.hid hts
        have hb := q[j].toNat_lt
        have hsl := Crc.step_lt hs hb
        clear hts hS hq4
        generalize q[j].toNat = b at *
        go_wp2_with (go_at_call 10; refine (step_any s b hs hb _).mono ?_; rintro e w' ⟨rfl, hw'⟩; subst hw')
        go_round
        case rel => exact ⟨j + 1, _, by omega, by go_num, hsl, Lib.hid HT.out.symm, rfl⟩
        case measure => simp [intOf]; omega
    · have e : j = q.length := by omega
      subst e
      have hl := HS.out
      rw [List.take_length] at hl
      have HL := Lib.hid hl
      clear HS hl
      go_wp2_with fail
      refine (rsum_any _ q _ hq4).mono ?_
      rintro e w4 ⟨rfl, hw4⟩
      subst hw4
      have hun : Op.unary .xor (.int .u32 (s : Int)) = pure (.int .u32 (crc8 q : Int)) := by
        rw [un32, not32 s hs, HL.out]; rfl
      obtain ⟨A, N, C, hsuf, hq6, -⟩ := run_suffix hq4 k 22 5 hkq row8
      have hq5 : Bytes w4 (.slice a k c) (q.take k) := hq4.firsts k hkq
      have hcat : [q.take k, q.drop k].flatten = q := by simp
      have hone : [q].flatten = q := by simp
      have h0 : crc8 [].flatten = 0 := by decide +kernel
      have hk0 : (0 : Int) ≤ k := by omega
      have hk1 : (k : Int) ≤ c := by omega
      have HK := Lib.hid hkq
      have hu := Try.underlying28
      have hit : (Try.prog.info? 28).map (·.size) = some tabL.length := by rw [size_tabL]; exact info_tab
      clear HR hj hlt hkq
      go_wp2_with fail
      -- HELD BEGIN
      refine wp_region_noPanic ?_
      refine wp_region_held_drew (S := fun w' => w'.rangeAt B 0 tabL) (by kernel_rfl) ?_ (fun hHeld => ?_)
      · exact hS
      -- 0: Op.load 28 (Operand.tmp 5)
      refine' wpAnyH_take (i := 0) (v := _) rfl (by kernel_rfl) (by kernel_rfl) (by kernel_rfl) (fun _ _ _ h => h) (yieldsIf_load_mid (by rfl) _ _ rfl _ _ rfl _ _ (fun w hSw => hSw) hu rfl hit) hHeld ?r0
      simp only [List.getElem_toArray, List.getElem_cons_zero, Act.put, List.setIfInBounds_toArray, List.set_cons_zero, List.set_cons_succ]
      -- 1: Op.move (Operand.tmp 0)
      refine' wpAnyH_take (i := 1) (v := _) rfl (by kernel_rfl) (by kernel_rfl) (by kernel_rfl) (fun _ _ _ h => h) (Or.inl ⟨by rfl, fun w hSw => ?h1⟩) hHeld ?r1
      case h1 => (simp only [List.getElem_toArray, List.getElem_cons_succ, List.getElem_cons_zero]; first | (go_simp; with_reducible rfl) | (go_simp; done) | rfl)
      simp only [List.getElem_toArray, List.getElem_cons_succ, List.getElem_cons_zero, Act.put, List.setIfInBounds_toArray, List.set_cons_zero, List.set_cons_succ]
      -- 4: Op.move (Operand.tmp 10)
      refine' wpAnyH_take (i := 4) (v := _) rfl (by kernel_rfl) (by kernel_rfl) (by kernel_rfl) (fun _ _ _ h => h) (Or.inl ⟨by rfl, fun w hSw => ?h4⟩) hHeld ?r4
      case h4 => (simp only [List.getElem_toArray, List.getElem_cons_succ, List.getElem_cons_zero]; first | (go_simp; with_reducible rfl) | (go_simp; done) | rfl)
      simp only [List.getElem_toArray, List.getElem_cons_succ, List.getElem_cons_zero, Act.put, List.setIfInBounds_toArray, List.set_cons_zero, List.set_cons_succ]
      -- 2: Op.buildSlice 34 1 #[(0, Operand.tmp 34)]
      refine' wpAnyH_ready (rs := [2]) (by kernel_rfl) (by simp) (AllReadyH.cons (o := _) ?i2 (fun K hK => ?s2) AllReadyH.nil)
      case i2 => (simp only [List.getElem?_toArray, List.getElem?_cons_succ, List.getElem?_cons_zero]; rfl)
      go_simp
      refine hK.out _ _ ?_ (fun hHeld => ?_)
      · exact rangeAt_keep hS hlt3 (bdr (bal (bre _) _))
      clear hK
      try simp only [Act.put, List.setIfInBounds_toArray, List.set_cons_zero, List.set_cons_succ]
      -- 3: Op.call { callee := Callee.value (Operand.func 12), args := #[Operand.
      refine' wpAnyH_ready (rs := [3]) (by kernel_rfl) (by simp) (AllReadyH.cons (o := _) ?i3 (fun K hK => ?s3) AllReadyH.nil)
      case i3 => (simp only [List.getElem?_toArray, List.getElem?_cons_succ, List.getElem?_cons_zero]; rfl)
      go_simp
      refine (sum_below _ [q] _ (Rows8.drew (rows_lit1 _ _ q _ _ rfl hq4))).mono ?_
      rintro e w5 ⟨rfl, hb5⟩
      have hbx := btr (bdr (bal (bre w4) _)) hb5
      rw [hone]
      refine hK.out _ _ ?_ (fun hHeld => ?_)
      · exact rangeAt_keep hS hlt3 hbx
      clear hK
      try simp only [Act.put, List.setIfInBounds_toArray, List.set_cons_zero, List.set_cons_succ]
      -- 5: Op.binOp BinOp.eql 26 (Operand.tmp 36) (Operand.tmp 37) 26
      refine' wpAnyH_take (i := 5) (v := _) rfl (by kernel_rfl) (by kernel_rfl) (by kernel_rfl) (fun _ _ _ h => h) (Or.inl ⟨by rfl, fun w hSw => ?h5⟩) hHeld ?r5
      case h5 => (simp only [List.getElem_toArray, List.getElem_cons_succ, List.getElem_cons_zero]; first | (go_simp; with_reducible rfl) | (go_simp; done) | rfl)
      simp only [List.getElem_toArray, List.getElem_cons_succ, List.getElem_cons_zero, Act.put, List.setIfInBounds_toArray, List.set_cons_zero, List.set_cons_succ]
      -- 6: Op.move (Operand.tmp 38)
      refine' wpAnyH_take (i := 6) (v := _) rfl (by kernel_rfl) (by kernel_rfl) (by kernel_rfl) (fun _ _ _ h => h) (Or.inl ⟨by rfl, fun w hSw => ?h6⟩) hHeld ?r6
      case h6 => (simp only [List.getElem_toArray, List.getElem_cons_succ, List.getElem_cons_zero]; first | (go_simp; with_reducible rfl) | (go_simp; done) | rfl)
      simp only [List.getElem_toArray, List.getElem_cons_succ, List.getElem_cons_zero, Act.put, List.setIfInBounds_toArray, List.set_cons_zero, List.set_cons_succ]
      -- 7: Op.load 28 (Operand.tmp 5)
      refine' wpAnyH_take (i := 7) (v := _) rfl (by kernel_rfl) (by kernel_rfl) (by kernel_rfl) (fun _ _ _ h => h) (yieldsIf_load_mid (by rfl) _ _ rfl _ _ rfl _ _ (fun w hSw => hSw) hu rfl hit) hHeld ?r7
      simp only [List.getElem_toArray, List.getElem_cons_succ, List.getElem_cons_zero, Act.put, List.setIfInBounds_toArray, List.set_cons_zero, List.set_cons_succ]
      -- 8: Op.move (Operand.tmp 0)
      refine' wpAnyH_take (i := 8) (v := _) rfl (by kernel_rfl) (by kernel_rfl) (by kernel_rfl) (fun _ _ _ h => h) (Or.inl ⟨by rfl, fun w hSw => ?h8⟩) hHeld ?r8
      case h8 => (simp only [List.getElem_toArray, List.getElem_cons_succ, List.getElem_cons_zero]; first | (go_simp; with_reducible rfl) | (go_simp; done) | rfl)
      simp only [List.getElem_toArray, List.getElem_cons_succ, List.getElem_cons_zero, Act.put, List.setIfInBounds_toArray, List.set_cons_zero, List.set_cons_succ]
      -- 9: Op.move (Operand.tmp 6)
      refine' wpAnyH_take (i := 9) (v := _) rfl (by kernel_rfl) (by kernel_rfl) (by kernel_rfl) (fun _ _ _ h => h) (Or.inl ⟨by rfl, fun w hSw => ?h9⟩) hHeld ?r9
      case h9 => (simp only [List.getElem_toArray, List.getElem_cons_succ, List.getElem_cons_zero]; first | (go_simp; with_reducible rfl) | (go_simp; done) | rfl)
      simp only [List.getElem_toArray, List.getElem_cons_succ, List.getElem_cons_zero, Act.put, List.setIfInBounds_toArray, List.set_cons_zero, List.set_cons_succ]
      -- 10: Op.slice 22 (Operand.tmp 41) none (some (Operand.tmp 42)) none
      refine' wpAnyH_take (i := 10) (v := _) rfl (by kernel_rfl) (by kernel_rfl) (by kernel_rfl) (fun _ _ _ h => h) (Or.inl ⟨by rfl, fun w hSw => ?h10⟩) hHeld ?r10
      case h10 => (simp only [List.getElem_toArray, List.getElem_cons_succ, List.getElem_cons_zero]; first | (go_simp; with_reducible rfl) | (go_simp; done) | rfl)
      simp only [List.getElem_toArray, List.getElem_cons_succ, List.getElem_cons_zero, Act.put, List.setIfInBounds_toArray, List.set_cons_zero, List.set_cons_succ]
      -- 11: Op.move (Operand.tmp 0)
      refine' wpAnyH_take (i := 11) (v := _) rfl (by kernel_rfl) (by kernel_rfl) (by kernel_rfl) (fun _ _ _ h => h) (Or.inl ⟨by rfl, fun w hSw => ?h11⟩) hHeld ?r11
      case h11 => (simp only [List.getElem_toArray, List.getElem_cons_succ, List.getElem_cons_zero]; first | (go_simp; with_reducible rfl) | (go_simp; done) | rfl)
      simp only [List.getElem_toArray, List.getElem_cons_succ, List.getElem_cons_zero, Act.put, List.setIfInBounds_toArray, List.set_cons_zero, List.set_cons_succ]
      -- 12: Op.move (Operand.tmp 6)
      refine' wpAnyH_take (i := 12) (v := _) rfl (by kernel_rfl) (by kernel_rfl) (by kernel_rfl) (fun _ _ _ h => h) (Or.inl ⟨by rfl, fun w hSw => ?h12⟩) hHeld ?r12
      case h12 => (simp only [List.getElem_toArray, List.getElem_cons_succ, List.getElem_cons_zero]; first | (go_simp; with_reducible rfl) | (go_simp; done) | rfl)
      simp only [List.getElem_toArray, List.getElem_cons_succ, List.getElem_cons_zero, Act.put, List.setIfInBounds_toArray, List.set_cons_zero, List.set_cons_succ]
      -- 13: Op.slice 22 (Operand.tmp 44) (some (Operand.tmp 45)) none none
      refine' wpAnyH_take (i := 13) (v := _) rfl (by kernel_rfl) (by kernel_rfl) (by kernel_rfl) (fun _ _ _ h => h) (Or.inl ⟨by rfl, fun w hSw => ?h13⟩) hHeld ?r13
      case h13 => (simp only [List.getElem_toArray, List.getElem_cons_succ, List.getElem_cons_zero]; first | (go_simp; with_reducible rfl) | (go_simp; done) | rfl)
      simp only [List.getElem_toArray, List.getElem_cons_succ, List.getElem_cons_zero, Act.put, List.setIfInBounds_toArray, List.set_cons_zero, List.set_cons_succ]
      -- 16: Op.move (Operand.tmp 10)
      refine' wpAnyH_take (i := 16) (v := _) rfl (by kernel_rfl) (by kernel_rfl) (by kernel_rfl) (fun _ _ _ h => h) (Or.inl ⟨by rfl, fun w hSw => ?h16⟩) hHeld ?r16
      case h16 => (simp only [List.getElem_toArray, List.getElem_cons_succ, List.getElem_cons_zero]; first | (go_simp; with_reducible rfl) | (go_simp; done) | rfl)
      simp only [List.getElem_toArray, List.getElem_cons_succ, List.getElem_cons_zero, Act.put, List.setIfInBounds_toArray, List.set_cons_zero, List.set_cons_succ]
      -- 14: Op.buildSlice 34 2 #[(0, Operand.tmp 43), (1, Operand.tmp 46)]
      refine' wpAnyH_ready (rs := [14]) (by kernel_rfl) (by simp) (AllReadyH.cons (o := _) ?i14 (fun K hK => ?s14) AllReadyH.nil)
      case i14 => (simp only [List.getElem?_toArray, List.getElem?_cons_succ, List.getElem?_cons_zero]; rfl)
      rw [if_pos (by rfl)]
      go_simp
      refine hK.out _ _ ?_ (fun hHeld => ?_)
      · exact rangeAt_keep hS hlt3 (bal hbx _)
      clear hK
      try simp only [Act.put, List.setIfInBounds_toArray, List.set_cons_zero, List.set_cons_succ]
      -- 15: Op.call { callee := Callee.value (Operand.func 12), args := #[Operand.
      refine' wpAnyH_ready (rs := [15]) (by kernel_rfl) (by simp) (AllReadyH.cons (o := _) ?i15 (fun K hK => ?s15) AllReadyH.nil)
      case i15 => (simp only [List.getElem?_toArray, List.getElem?_cons_succ, List.getElem?_cons_zero]; rfl)
      rw [if_pos (by rfl)]
      go_simp
      refine (sum_below _ [q.take k, q.drop k] _ (rows_lit2 _ _ _ _ _ _ _ rfl (hq5.below hbx) (hq6.below hbx))).mono ?_
      rintro e w6 ⟨rfl, hb6⟩
      have hby := btr (bal hbx _) hb6
      rw [hcat]
      refine hK.out _ _ ?_ (fun hHeld => ?_)
      · exact rangeAt_keep hS hlt3 hby
      clear hK
      try simp only [Act.put, List.setIfInBounds_toArray, List.set_cons_zero, List.set_cons_succ]
      -- 17: Op.binOp BinOp.eql 26 (Operand.tmp 48) (Operand.tmp 49) 26
      refine' wpAnyH_take (i := 17) (v := _) rfl (by kernel_rfl) (by kernel_rfl) (by kernel_rfl) (fun _ _ _ h => h) (Or.inl ⟨by rfl, fun w hSw => ?h17⟩) hHeld ?r17
      case h17 => (simp only [List.getElem_toArray, List.getElem_cons_succ, List.getElem_cons_zero]; first | (go_simp; with_reducible rfl) | (go_simp; done) | rfl)
      simp only [List.getElem_toArray, List.getElem_cons_succ, List.getElem_cons_zero, Act.put, List.setIfInBounds_toArray, List.set_cons_zero, List.set_cons_succ]
      -- 18: Op.pick (Operand.tmp 39) (Operand.tmp 50) (Operand.const (Value.bool f
      refine' wpAnyH_take (i := 18) (v := _) rfl (by kernel_rfl) (by kernel_rfl) (by kernel_rfl) (fun _ _ _ h => h) (Or.inl ⟨by rfl, fun w hSw => ?h18⟩) hHeld ?r18
      case h18 => (simp only [List.getElem_toArray, List.getElem_cons_succ, List.getElem_cons_zero]; first | (go_simp; with_reducible rfl) | (go_simp; done) | rfl)
      simp only [List.getElem_toArray, List.getElem_cons_succ, List.getElem_cons_zero, Act.put, List.setIfInBounds_toArray, List.set_cons_zero, List.set_cons_succ]
      -- 19: Op.move (Operand.tmp 51)
      refine' wpAnyH_take (i := 19) (v := _) rfl (by kernel_rfl) (by kernel_rfl) (by kernel_rfl) (fun _ _ _ h => h) (Or.inl ⟨by rfl, fun w hSw => ?h19⟩) hHeld ?r19
      case h19 => (simp only [List.getElem_toArray, List.getElem_cons_succ, List.getElem_cons_zero]; first | (go_simp; with_reducible rfl) | (go_simp; done) | rfl)
      simp only [List.getElem_toArray, List.getElem_cons_succ, List.getElem_cons_zero, Act.put, List.setIfInBounds_toArray, List.set_cons_zero, List.set_cons_succ]
      -- 20: Op.move (Operand.tmp 7)
      refine' wpAnyH_take (i := 20) (v := _) rfl (by kernel_rfl) (by kernel_rfl) (by kernel_rfl) (fun _ _ _ h => h) (Or.inl ⟨by rfl, fun w hSw => ?h20⟩) hHeld ?r20
      case h20 => (simp only [List.getElem_toArray, List.getElem_cons_succ, List.getElem_cons_zero]; first | (go_simp; with_reducible rfl) | (go_simp; done) | rfl)
      simp only [List.getElem_toArray, List.getElem_cons_succ, List.getElem_cons_zero, Act.put, List.setIfInBounds_toArray, List.set_cons_zero, List.set_cons_succ]
      -- 21: Op.unOp UnOp.xor 26 (Operand.tmp 53)
      refine' wpAnyH_take (i := 21) (v := _) rfl (by kernel_rfl) (by kernel_rfl) (by kernel_rfl) (fun _ _ _ h => h) (Or.inl ⟨by rfl, fun w hSw => ?h21⟩) hHeld ?r21
      case h21 => (simp only [List.getElem_toArray, List.getElem_cons_succ, List.getElem_cons_zero]; first | (go_simp; with_reducible rfl) | (go_simp; done) | rfl)
      simp only [List.getElem_toArray, List.getElem_cons_succ, List.getElem_cons_zero, Act.put, List.setIfInBounds_toArray, List.set_cons_zero, List.set_cons_succ]
      -- 22: Op.move (Operand.tmp 10)
      refine' wpAnyH_take (i := 22) (v := _) rfl (by kernel_rfl) (by kernel_rfl) (by kernel_rfl) (fun _ _ _ h => h) (Or.inl ⟨by rfl, fun w hSw => ?h22⟩) hHeld ?r22
      case h22 => (simp only [List.getElem_toArray, List.getElem_cons_succ, List.getElem_cons_zero]; first | (go_simp; with_reducible rfl) | (go_simp; done) | rfl)
      simp only [List.getElem_toArray, List.getElem_cons_succ, List.getElem_cons_zero, Act.put, List.setIfInBounds_toArray, List.set_cons_zero, List.set_cons_succ]
      -- 23: Op.binOp BinOp.eql 26 (Operand.tmp 54) (Operand.tmp 55) 26
      refine' wpAnyH_take (i := 23) (v := _) rfl (by kernel_rfl) (by kernel_rfl) (by kernel_rfl) (fun _ _ _ h => h) (Or.inl ⟨by rfl, fun w hSw => ?h23⟩) hHeld ?r23
      case h23 => (simp only [List.getElem_toArray, List.getElem_cons_succ, List.getElem_cons_zero]; first | (go_simp; with_reducible rfl) | (go_simp; done) | rfl)
      simp only [List.getElem_toArray, List.getElem_cons_succ, List.getElem_cons_zero, Act.put, List.setIfInBounds_toArray, List.set_cons_zero, List.set_cons_succ]
      -- 24: Op.pick (Operand.tmp 52) (Operand.tmp 56) (Operand.const (Value.bool f
      refine' wpAnyH_take (i := 24) (v := _) rfl (by kernel_rfl) (by kernel_rfl) (by kernel_rfl) (fun _ _ _ h => h) (Or.inl ⟨by rfl, fun w hSw => ?h24⟩) hHeld ?r24
      case h24 => (simp only [List.getElem_toArray, List.getElem_cons_succ, List.getElem_cons_zero]; first | (go_simp; with_reducible rfl) | (go_simp; done) | rfl)
      simp only [List.getElem_toArray, List.getElem_cons_succ, List.getElem_cons_zero, Act.put, List.setIfInBounds_toArray, List.set_cons_zero, List.set_cons_succ]
      -- 25: Op.move (Operand.tmp 57)
      refine' wpAnyH_take (i := 25) (v := _) rfl (by kernel_rfl) (by kernel_rfl) (by kernel_rfl) (fun _ _ _ h => h) (Or.inl ⟨by rfl, fun w hSw => ?h25⟩) hHeld ?r25
      case h25 => (simp only [List.getElem_toArray, List.getElem_cons_succ, List.getElem_cons_zero]; first | (go_simp; with_reducible rfl) | (go_simp; done) | rfl)
      simp only [List.getElem_toArray, List.getElem_cons_succ, List.getElem_cons_zero, Act.put, List.setIfInBounds_toArray, List.set_cons_zero, List.set_cons_succ]
      -- 26: Op.load 28 (Operand.tmp 5)
      refine' wpAnyH_take (i := 26) (v := _) rfl (by kernel_rfl) (by kernel_rfl) (by kernel_rfl) (fun _ _ _ h => h) (yieldsIf_load_mid (by rfl) _ _ rfl _ _ rfl _ _ (fun w hSw => hSw) hu rfl hit) hHeld ?r26
      simp only [List.getElem_toArray, List.getElem_cons_succ, List.getElem_cons_zero, Act.put, List.setIfInBounds_toArray, List.set_cons_zero, List.set_cons_succ]
      -- 27: Op.call { callee := Callee.value (Operand.func 12), args := #[Operand.
      refine' wpAnyH_ready (rs := [27]) (by kernel_rfl) (by simp) (AllReadyH.cons (o := _) ?i27 (fun K hK => ?s27) AllReadyH.nil)
      case i27 => (simp only [List.getElem?_toArray, List.getElem?_cons_succ, List.getElem?_cons_zero]; rfl)
      rw [if_pos (by rfl)]
      go_simp
      refine (sum_below _ [] _ (rows_none _)).mono ?_
      rintro e w7 ⟨rfl, hb7⟩
      have hbz := btr hby hb7
      rw [h0]
      refine hK.out _ _ ?_ (fun hHeld => ?_)
      · exact rangeAt_keep hS hlt3 hbz
      clear hK
      try simp only [Act.put, List.setIfInBounds_toArray, List.set_cons_zero, List.set_cons_succ]
      -- 28: Op.binOp BinOp.eql 26 (Operand.tmp 60) (Operand.const (Value.int IntKi
      refine' wpAnyH_take (i := 28) (v := _) rfl (by kernel_rfl) (by kernel_rfl) (by kernel_rfl) (fun _ _ _ h => h) (Or.inl ⟨by rfl, fun w hSw => ?h28⟩) hHeld ?r28
      case h28 => (simp only [List.getElem_toArray, List.getElem_cons_succ, List.getElem_cons_zero]; first | (go_simp; with_reducible rfl) | (go_simp; done) | rfl)
      simp only [List.getElem_toArray, List.getElem_cons_succ, List.getElem_cons_zero, Act.put, List.setIfInBounds_toArray, List.set_cons_zero, List.set_cons_succ]
      -- 29: Op.pick (Operand.tmp 58) (Operand.tmp 61) (Operand.const (Value.bool f
      refine' wpAnyH_take (i := 29) (v := _) rfl (by kernel_rfl) (by kernel_rfl) (by kernel_rfl) (fun _ _ _ h => h) (Or.inl ⟨by rfl, fun w hSw => ?h29⟩) hHeld ?r29
      case h29 => (simp only [List.getElem_toArray, List.getElem_cons_succ, List.getElem_cons_zero]; first | (go_simp; with_reducible rfl) | (go_simp; done) | rfl)
      simp only [List.getElem_toArray, List.getElem_cons_succ, List.getElem_cons_zero, Act.put, List.setIfInBounds_toArray, List.set_cons_zero, List.set_cons_succ]
      -- 30: Op.assign (Operand.tmp 62)
      refine' wpAnyH_take (i := 30) (v := _) rfl (by kernel_rfl) (by kernel_rfl) (by kernel_rfl) (fun _ _ _ h => h) (Or.inl ⟨by rfl, fun w hSw => ?h30⟩) hHeld ?r30
      case h30 => (simp only [List.getElem_toArray, List.getElem_cons_succ, List.getElem_cons_zero]; first | (go_simp; with_reducible rfl) | (go_simp; done) | rfl)
      simp only [List.getElem_toArray, List.getElem_cons_succ, List.getElem_cons_zero, Act.put, List.setIfInBounds_toArray, List.set_cons_zero, List.set_cons_succ]
      refine wpAnyH_done (by kernel_rfl) ?_ _
      refine NoPanic.normal ?_
      -- HELD END
      go_wp2
      go_ret
      exact ⟨rfl, btr hb4 hbz⟩
end Go.Proofs.Ytbbhbbcbaliplaa
