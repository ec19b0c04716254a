/- Walk: the law of the tokens of any text. -/
import Derived.Test.YtffghdehimhpiaaDoorTkLawA
import Derived.Laws.StructEq
namespace Go.Proofs.YtffghdehimhpiaaDoor
open Go.RowKit

theorem Tb.mono {B B' : Nat} {w : World} (h : Tb B w) (hb : B ≤ B') : Tb B' w := fun w' k => h w' (k.mono hb)

theorem toks_bound : ∀ (f i : Nat) (l : List UInt8) (ts : List Tok), toks f i l = some ts → ts.length ≤ l.length ∧ ∀ t ∈ ts, t.text.length ≤ l.length := by
  intro f
  induction f with
  | zero => intro i l ts h; cases h
  | succ f ih =>
    intro i l ts h
    cases l with
    | nil => cases h; exact ⟨by simp, fun t ht => by simp at ht⟩
    | cons b r =>
      rw [toks] at h
      split at h
      · obtain ⟨h1, h2⟩ := ih _ _ _ h
        refine ⟨by rw [List.length_cons]; omega, fun t ht => ?_⟩
        have := h2 t ht
        rw [List.length_cons]
        omega
      · split at h
        · obtain ⟨h1, h2⟩ := ih _ _ _ h
          have hl : ((b :: r).drop (noteOf (b :: r))).length ≤ (b :: r).length := by rw [List.length_drop]; omega
          exact ⟨by omega, fun t ht => Nat.le_trans (h2 t ht) hl⟩
        · split at h
          · cases h
          · next h3 =>
            cases hq : toks f (i + (tokAt (b :: r)).2) ((b :: r).drop (tokAt (b :: r)).2) with
            | none => rw [hq] at h; cases h
            | some ts' =>
              rw [hq] at h
              cases h
              obtain ⟨h1, h2⟩ := ih _ _ _ hq
              have hp := tok_pos h3
              have hl : ((b :: r).drop (tokAt (b :: r)).2).length + 1 ≤ (b :: r).length := by rw [List.length_drop, List.length_cons]; omega
              refine ⟨by rw [List.length_cons]; omega, fun t ht => ?_⟩
              rcases List.mem_cons.1 ht with rfl | ht
              · exact Nat.le_trans (List.length_take_le _ _) (tok_le (b :: r))
              · have := h2 t ht; omega

theorem tok_neq (k : Nat) (T : ByteArray) (i : Nat) (w : World) : (binOp .neq 33 (.agg #[.int .u8 k, .string T, .int .i64 i]) (.agg #[.int .u8 k, .string T, .int .i64 i])).run Tryd.prog w = .ok (.bool false) w := by
  simp [go_sem]

set_option linter.unusedSimpArgs false in
set_option maxRecDepth 100000 in
set_option maxHeartbeats 6400000 in
theorem reads_calls (s : ByteArray) (hs : s.size ≤ 9223372036854775807) (w : World) (ht : Tb w.heap.size w) : Calls Tryd.prog 3 #[.string s] w fun e w' => e = .returned (.bool true) ∧ Below w.heap.size w w' := by
  have HT := Lib.hid ht
  have HTX := Lib.hid (fun w' => text_any s 800 w' hs (by omega))
  clear ht hs
  go_enter Tryd.func3, Tryd.ntmps3
  go_wp2_with fail
  refine (awake_any w HT.out).mono ?_
  rintro e w1 ⟨rfl, hb1⟩
  have HB1 := Lib.hid hb1
  clear hb1
  go_wp2_with fail
  refine (HTX.out w1).mono ?_
  rintro e w2 ⟨rfl, hw⟩
  have hw' := hw.symm
  subst hw'
  clear hw HTX
  have hsz := first_size s 800
  generalize firstOf s 800 = s8 at *
  go_wp2_with fail
  refine (all_any s8 (by omega) _ ((HT.out.below HB1.out).mono HB1.out.size)).mono ?_
  rintro e w3 ⟨hno, hyes, hb3⟩
  cases hq : toksOf s8.data.toList with
  | none =>
    obtain rfl := hno hq
    have HB3 := Lib.hid (btr HB1.out hb3)
    have HQ := Lib.hid hq
    clear hno hyes hb3 hq HB1
    go_wp2_with fail
    refine (rall_any s8 (by omega) w3).mono ?_
    rintro e w4 ⟨hno, -, hb4⟩
    obtain rfl := hno HQ.out
    have HB4 := Lib.hid (btr HB3.out hb4)
    clear hno hb4 HB3 HQ hsz
    go_wp2_with fail
    go_loopw [7, 8, 35] (fun _ _ i wr => i = .int .i64 0 ∧ wr = w4) (fun _ _ _ _ => 0)
    case atStart => exact ⟨rfl, rfl⟩
    case round =>
      obtain ⟨rfl, rfl⟩ := hrel
      go_wp2_with fail
      go_ret
      exact ⟨rfl, HB4.out⟩
  | some ts =>
    obtain ⟨v, rfl, hown⟩ := hyes ts hq
    obtain ⟨a3, c3, rfl, -, -, -, -⟩ := id hown.at
    have HB3 := Lib.hid (btr HB1.out hb3)
    have HQ := Lib.hid hq
    have HOWN := Lib.hid hown
    clear hno hyes hb3 hq hown HB1
    go_wp2_with fail
    refine (rall_any s8 (by omega) w3).mono ?_
    rintro e w4 ⟨-, hyes, hb4⟩
    obtain ⟨v4, rfl, hown4⟩ := hyes ts HQ.out
    obtain ⟨a4, c4, rfl, -, -, -, -⟩ := id hown4.at
    have HB4 := Lib.hid (btr HB3.out hb4)
    have HAT : Hid (ToksAt w4 (.slice a3 ts.length c3) ts) := Lib.hid (HOWN.out.at.below hb4)
    have HOW4 := Lib.hid hown4
    have HBK := Lib.hid hb4
    clear hyes hb4 hown4 HB3
    by_cases hne : ts = []
    · have hl : ts.length = 0 := by rw [hne]; rfl
      rw [hl]
      clear hne hl HOWN HAT HOW4 HBK HQ hsz
      go_wp2_with fail
      go_loopw [7, 8, 35] (fun _ _ i wr => i = .int .i64 0 ∧ wr = w4) (fun _ _ _ _ => 0)
      case atStart => exact ⟨rfl, rfl⟩
      case round =>
        obtain ⟨rfl, rfl⟩ := hrel
        go_wp2_with fail
        go_ret
        exact ⟨rfl, HB4.out⟩
    obtain ⟨g, c, e3, hg, hcs⟩ := own_open HOWN.out hne
    cases e3
    obtain ⟨g', c', e4, hg', hcs'⟩ := own_open HOW4.out hne
    cases e4
    have HC : Hid (∀ w', Below w4.heap.size w4 w' → ∀ (j : Nat) t, ts[j]? = some t → (w'.cell? ⟨g, j * 3, none⟩ = some (.int .u8 t.kind) ∧ w'.cell? ⟨g, j * 3 + 1, none⟩ = some (.string (mk8 t.text)) ∧ w'.cell? ⟨g, j * 3 + 2, none⟩ = some (.int .i64 t.pos)) ∧ (w'.cell? ⟨g', j * 3, none⟩ = some (.int .u8 t.kind) ∧ w'.cell? ⟨g', j * 3 + 1, none⟩ = some (.string (mk8 t.text)) ∧ w'.cell? ⟨g', j * 3 + 2, none⟩ = some (.int .i64 t.pos))) := Lib.hid fun w' hb j t hj => by
      obtain ⟨h0, h1, h2⟩ := hcs j t hj
      obtain ⟨k0, k1, k2⟩ := hcs' j t hj
      have hb' := btr HBK.out hb
      exact ⟨⟨(hb'.cell (p := ⟨g, j * 3, none⟩) hg).trans h0, (hb'.cell (p := ⟨g, j * 3 + 1, none⟩) hg).trans h1, (hb'.cell (p := ⟨g, j * 3 + 2, none⟩) hg).trans h2⟩,
        ⟨(hb.cell (p := ⟨g', j * 3, none⟩) hg').trans k0, (hb.cell (p := ⟨g', j * 3 + 1, none⟩) hg').trans k1, (hb.cell (p := ⟨g', j * 3 + 2, none⟩) hg').trans k2⟩⟩
    have HTL := Lib.hid (tok_len HQ.out)
    obtain ⟨n, hn⟩ : ∃ n, n = ts.length := ⟨_, rfl⟩
    rw [← hn]
    have HN := Lib.hid hn
    have HLEN : Hid (n ≤ 1000000 ∧ ∀ t ∈ ts, t.text.length ≤ 281474976710656) := Lib.hid (by
      obtain ⟨h1, h2⟩ := toks_bound _ _ _ _ HQ.out
      have hl : (s8.data.toList.drop 0).length ≤ 800 := by rw [List.drop_zero, str_len]; exact hsz
      exact ⟨by rw [hn]; omega, fun t ht => by have := h2 t ht; omega⟩)
    have hn1 := HLEN.out.1
    clear hg hcs hg' hcs' hne hn HOWN HAT HOW4 HBK HQ hsz
    go_wp2_with fail
    go_loopw [7, 8, 35] (fun _ _ si wr => ∃ j : Nat, j ≤ n ∧ si = .int .i64 j ∧ Hid (Below w4.heap.size w4 wr)) (fun _ _ si _ => n - (intOf si).toNat)
    case atStart => exact ⟨0, by omega, rfl, Lib.hid (bre w4)⟩
    case round =>
      obtain ⟨j, hj, rfl, hbl⟩ := hrel
      by_cases hlt : j < n
      rotate_left
      · have ej : j = n := by omega
        subst ej
        clear hlt hj
        go_wp2_with fail
        go_ret
        exact ⟨rfl, btr HB4.out hbl.out⟩
      have hjl : j < ts.length := by rw [← HN.out]; exact hlt
      obtain ⟨t, htj⟩ : ∃ t, ts[j]? = some t := ⟨_, List.getElem?_eq_getElem hjl⟩
      obtain ⟨l1, l2, l3, l4⟩ := HTL.out t (List.mem_of_getElem? htj)
      have hl6 := HLEN.out.2 t (List.mem_of_getElem? htj)
      obtain ⟨⟨c0, c1, c2⟩, -⟩ := HC.out wr hbl.out j t htj
      obtain ⟨k, T, p⟩ := t
      simp only at c0 c1 c2 l1 l2 l3 l4 hl6
      have HTJ := Lib.hid htj
      have HL4 := Lib.hid l4
      have HL6 := Lib.hid hl6
      clear hjl htj l2 l3 l4 hl6
      go_upto_region 11 with fail
      have hb5 := bal (bre wr) (.cells #[.int .u8 k, .string (mk8 T), .int .i64 p] 32)
      have hr5 := heap_alloc_new wr (.cells #[.int .u8 k, .string (mk8 T), .int .i64 p] 32)
      generalize wr.alloc (.cells #[.int .u8 k, .string (mk8 T), .int .i64 p] 32) = w5 at *
      obtain ⟨n8, hn8⟩ : ∃ n, n = wr.heap.size := ⟨_, rfl⟩
      rw [← hn8] at hr5 ⊢
      have HB5 : Hid (Below w4.heap.size w4 w5) := Lib.hid (hbl.out.trans (hb5.mono hbl.out.size))
      have HS : Hid (∀ w', Below w5.heap.size w5 w' → (w'.cell? ⟨n8, 0, none⟩ = some (.int .u8 k) ∧ w'.cell? ⟨n8, 1, none⟩ = some (.string (mk8 T)) ∧ w'.cell? ⟨n8, 2, none⟩ = some (.int .i64 p)) ∧ (w'.cell? ⟨g', j * 3, none⟩ = some (.int .u8 k) ∧ w'.cell? ⟨g', j * 3 + 1, none⟩ = some (.string (mk8 T)) ∧ w'.cell? ⟨g', j * 3 + 2, none⟩ = some (.int .i64 p))) := Lib.hid fun w' hb => by
        have h := (hb.block n8 (Array.getElem?_eq_some_iff.1 hr5).1).trans hr5
        exact ⟨⟨cell_of_row w' n8 0 _ _ _ h, cell_of_row w' n8 1 _ _ _ h, cell_of_row w' n8 2 _ _ _ h⟩, (HC.out w' (HB5.out.trans (hb.mono HB5.out.size)) j _ HTJ.out).2⟩
      have hqn := fun w' => tok_neq k (mk8 T) p w'
      have H0 : Hid (Below w5.heap.size w5 w5.drew) := Lib.hid (bdr (bre w5))
      clear hb5 hr5 hn8 c0 c1 c2 hbl
      by_cases hk : k = 2
      · obtain ⟨q1, q2⟩ := HL4.out hk
        have d1 : ((k : Int) != 2) = false := by simp; omega
        have d2 : decide ((k : Int) = 2) = true := decide_eq_true (by omega)
        have d3 : ((k : Int) == 2) = true := d2
        have d4 : (k == 2) = true := beq_iff_eq.2 hk
        have HVA : Hid (∀ w', Calls Tryd.prog 12 #[.agg #[.int .u8 k, .string (mk8 T), .int .i64 p]] w' fun e w'' => e = .returned (.int .i64 (valOf T)) ∧ Below w'.heap.size w' w'') := Lib.hid fun w' => by rw [hk]; exact value_num T p q1 q2 HL6.out w'
        have HNU : Hid (∀ w', Calls Tryd.prog 13 #[.string (mk8 T)] w' fun e w'' => e = .returned (.int .i64 (valOf T)) ∧ w'' = w') := Lib.hid fun w' => (rnumber_any (mk8 T) (by rw [← str_len]; exact HL6.out) w').mono fun e w'' h => ⟨by rw [h.1]; show Ending.returned (.int .i64 (numOf8 T)) = _; unfold numOf8; rw [if_pos q1], h.2⟩
        clear q1 q2 l1 hk
        refine region_anyZ (z := 27) (S := fun w' => (w'.cell? ⟨n8, 0, none⟩ = some (.int .u8 k) ∧ w'.cell? ⟨n8, 1, none⟩ = some (.string (mk8 T)) ∧ w'.cell? ⟨n8, 2, none⟩ = some (.int .i64 p)) ∧ (w'.cell? ⟨g', j * 3, none⟩ = some (.int .u8 k) ∧ w'.cell? ⟨g', j * 3 + 1, none⟩ = some (.string (mk8 T)) ∧ w'.cell? ⟨g', j * 3 + 2, none⟩ = some (.int .i64 p))) (by kernel_rfl) ?_
        refine anyZ_begin (fun hcl0 => ?_)
        refine anyZ_held (by exact HS.out _ H0.out) (fun hHeld => ?_)
        -- 0: Op.load 32 (Operand.tmp 8)
        refine' anyZ_take (i := 0) (v := _) rfl (by rfl) (by kernel_rfl) (by kernel_rfl) (by kernel_rfl) hcl0 28 (by kernel_rfl) (by kernel_rfl) (fun _ _ _ h => h) (Or.inl ⟨by rfl, fun w hSw => ?hra1⟩) hHeld (fun hcl1 => ?rra1)
        case hra1 => (simp only [List.getElem_toArray, List.getElem_cons_zero]; obtain ⟨⟨hS1, hS2, hS3⟩, hS4, hS5, hS6⟩ := hSw; first | (go_simp; with_reducible rfl) | (go_simp; done) | rfl)
        simp only [List.getElem_toArray, List.getElem_cons_zero, Act.put, List.setIfInBounds_toArray, List.set_cons_zero, List.set_cons_succ]
        -- 1: Op.move (Operand.tmp 5)
        refine' anyZ_pure (i := 1) (v := _) rfl (by rfl) (by kernel_rfl) (by kernel_rfl) (by kernel_rfl) hcl1 (fun _ _ _ h => h) (Or.inl ⟨by rfl, fun w _ => ?hra2⟩) (fun _ => hHeld) (fun hcl2 => ?rra2)
        case hra2 => (simp only [List.getElem_toArray, List.getElem_cons_succ, List.getElem_cons_zero]; first | (go_simp; with_reducible rfl) | (go_simp; done) | rfl)
        simp only [List.getElem_toArray, List.getElem_cons_succ, List.getElem_cons_zero, Act.put, List.setIfInBounds_toArray, List.set_cons_zero, List.set_cons_succ]
        -- 2: Op.move (Operand.tmp 7)
        refine' anyZ_pure (i := 2) (v := _) rfl (by rfl) (by kernel_rfl) (by kernel_rfl) (by kernel_rfl) hcl2 (fun _ _ _ h => h) (Or.inl ⟨by rfl, fun w _ => ?hra3⟩) (fun _ => hHeld) (fun hcl3 => ?rra3)
        case hra3 => (simp only [List.getElem_toArray, List.getElem_cons_succ, List.getElem_cons_zero]; first | (go_simp; with_reducible rfl) | (go_simp; done) | rfl)
        simp only [List.getElem_toArray, List.getElem_cons_succ, List.getElem_cons_zero, Act.put, List.setIfInBounds_toArray, List.set_cons_zero, List.set_cons_succ]
        -- 3: Op.indexAddr 28 (Operand.tmp 41) (Operand.tmp 42)
        refine' anyZ_pure (i := 3) (v := _) rfl (by rfl) (by kernel_rfl) (by kernel_rfl) (by kernel_rfl) hcl3 (fun _ _ _ h => h) (Or.inl ⟨by rfl, fun w _ => ?hra4⟩) (fun _ => hHeld) (fun hcl4 => ?rra4)
        case hra4 => (simp only [List.getElem_toArray, List.getElem_cons_succ, List.getElem_cons_zero]; first | (go_simp; with_reducible rfl) | (go_simp; done) | rfl)
        simp only [List.getElem_toArray, List.getElem_cons_succ, List.getElem_cons_zero, Act.put, List.setIfInBounds_toArray, List.set_cons_zero, List.set_cons_succ]
        -- 4: Op.load 33 (Operand.tmp 43)
        refine' anyZ_take (i := 4) (v := _) rfl (by rfl) (by kernel_rfl) (by kernel_rfl) (by kernel_rfl) hcl4 28 (by kernel_rfl) (by kernel_rfl) (fun _ _ _ h => h) (Or.inl ⟨by rfl, fun w hSw => ?hra5⟩) hHeld (fun hcl5 => ?rra5)
        case hra5 => (simp only [List.getElem_toArray, List.getElem_cons_succ, List.getElem_cons_zero]; obtain ⟨⟨hS1, hS2, hS3⟩, hS4, hS5, hS6⟩ := hSw; first | (go_simp; with_reducible rfl) | (go_simp; done) | rfl)
        simp only [List.getElem_toArray, List.getElem_cons_succ, List.getElem_cons_zero, Act.put, List.setIfInBounds_toArray, List.set_cons_zero, List.set_cons_succ]
        -- 5: Op.binOp BinOp.neq 33 (Operand.tmp 40) (Operand.tmp 44) 33
        refine' anyZ_pure (i := 5) (v := _) rfl (by rfl) (by kernel_rfl) (by kernel_rfl) (by kernel_rfl) hcl5 (fun _ _ _ h => h) (Or.inl ⟨by rfl, fun w _ => ?hra6⟩) (fun _ => hHeld) (fun hcl6 => ?rra6)
        case hra6 => (simp only [List.getElem_toArray, List.getElem_cons_succ, List.getElem_cons_zero]; first | (go_simp; with_reducible rfl) | (go_simp; done) | rfl)
        simp only [List.getElem_toArray, List.getElem_cons_succ, List.getElem_cons_zero, Act.put, List.setIfInBounds_toArray, List.set_cons_zero, List.set_cons_succ]
        -- 6: Op.move (Operand.tmp 45)
        refine' anyZ_pure (i := 6) (v := _) rfl (by rfl) (by kernel_rfl) (by kernel_rfl) (by kernel_rfl) hcl6 (fun _ _ _ h => h) (Or.inl ⟨by rfl, fun w _ => ?hra7⟩) (fun _ => hHeld) (fun hcl7 => ?rra7)
        case hra7 => (simp only [List.getElem_toArray, List.getElem_cons_succ, List.getElem_cons_zero]; first | (go_simp; with_reducible rfl) | (go_simp; done) | rfl)
        simp only [List.getElem_toArray, List.getElem_cons_succ, List.getElem_cons_zero, Act.put, List.setIfInBounds_toArray, List.set_cons_zero, List.set_cons_succ]
        -- 7: Op.fieldAddr 32 (Operand.tmp 8) 0
        refine' anyZ_pure (i := 7) (v := _) rfl (by rfl) (by kernel_rfl) (by kernel_rfl) (by kernel_rfl) hcl7 (fun _ _ _ h => h) (Or.inl ⟨by rfl, fun w _ => ?hra8⟩) (fun _ => hHeld) (fun hcl8 => ?rra8)
        case hra8 => (simp only [List.getElem_toArray, List.getElem_cons_succ, List.getElem_cons_zero]; first | (go_simp; with_reducible rfl) | (go_simp; done) | rfl)
        simp only [List.getElem_toArray, List.getElem_cons_succ, List.getElem_cons_zero, Act.put, List.setIfInBounds_toArray, List.set_cons_zero, List.set_cons_succ]
        -- 8: Op.load 5 (Operand.tmp 47)
        refine' anyZ_take (i := 8) (v := _) rfl (by rfl) (by kernel_rfl) (by kernel_rfl) (by kernel_rfl) hcl8 28 (by kernel_rfl) (by kernel_rfl) (fun _ _ _ h => h) (Or.inl ⟨by rfl, fun w hSw => ?hra9⟩) hHeld (fun hcl9 => ?rra9)
        case hra9 => (simp only [List.getElem_toArray, List.getElem_cons_succ, List.getElem_cons_zero]; obtain ⟨⟨hS1, hS2, hS3⟩, hS4, hS5, hS6⟩ := hSw; first | (go_simp; with_reducible rfl) | (go_simp; done) | rfl)
        simp only [List.getElem_toArray, List.getElem_cons_succ, List.getElem_cons_zero, Act.put, List.setIfInBounds_toArray, List.set_cons_zero, List.set_cons_succ]
        -- 9: Op.binOp BinOp.eql 5 (Operand.tmp 48) (Operand.const (Value.
        refine' anyZ_pure (i := 9) (v := _) rfl (by rfl) (by kernel_rfl) (by kernel_rfl) (by kernel_rfl) hcl9 (fun _ _ _ h => h) (Or.inl ⟨by rfl, fun w _ => ?hra10⟩) (fun _ => hHeld) (fun hcl10 => ?rra10)
        case hra10 => (simp only [List.getElem_toArray, List.getElem_cons_succ, List.getElem_cons_zero]; first | (go_simp; with_reducible rfl) | (go_simp; done) | rfl)
        simp only [List.getElem_toArray, List.getElem_cons_succ, List.getElem_cons_zero, Act.put, List.setIfInBounds_toArray, List.set_cons_zero, List.set_cons_succ]
        -- 10: Op.move (Operand.tmp 49)
        refine' anyZ_pure (i := 10) (v := _) rfl (by rfl) (by kernel_rfl) (by kernel_rfl) (by kernel_rfl) hcl10 (fun _ _ _ h => h) (Or.inl ⟨by rfl, fun w _ => ?hra11⟩) (fun _ => hHeld) (fun hcl11 => ?rra11)
        case hra11 => (simp only [List.getElem_toArray, List.getElem_cons_succ, List.getElem_cons_zero]; first | (go_simp; with_reducible rfl) | (go_simp; done) | rfl)
        simp only [List.getElem_toArray, List.getElem_cons_succ, List.getElem_cons_zero, Act.put, List.setIfInBounds_toArray, List.set_cons_zero, List.set_cons_succ]
        -- 11: Op.load 32 (Operand.tmp 8)
        refine' anyZ_take (i := 11) (v := _) rfl (by rfl) (by kernel_rfl) (by kernel_rfl) (by kernel_rfl) hcl11 28 (by kernel_rfl) (by kernel_rfl) (fun _ _ _ h => h) (Or.inl ⟨by rfl, fun w hSw => ?hra12⟩) hHeld (fun hcl12 => ?rra12)
        case hra12 => (simp only [List.getElem_toArray, List.getElem_cons_succ, List.getElem_cons_zero]; obtain ⟨⟨hS1, hS2, hS3⟩, hS4, hS5, hS6⟩ := hSw; first | (go_simp; with_reducible rfl) | (go_simp; done) | rfl)
        simp only [List.getElem_toArray, List.getElem_cons_succ, List.getElem_cons_zero, Act.put, List.setIfInBounds_toArray, List.set_cons_zero, List.set_cons_succ]
        -- 13: Op.fieldAddr 32 (Operand.tmp 8) 1
        refine' anyZ_pure (i := 13) (v := _) rfl (by rfl) (by kernel_rfl) (by kernel_rfl) (by kernel_rfl) hcl12 (fun _ _ _ h => h) (Or.inl ⟨by rfl, fun w _ => ?hra13⟩) (fun _ => hHeld) (fun hcl13 => ?rra13)
        case hra13 => (simp only [List.getElem_toArray, List.getElem_cons_succ, List.getElem_cons_zero]; first | (go_simp; with_reducible rfl) | (go_simp; done) | rfl)
        simp only [List.getElem_toArray, List.getElem_cons_succ, List.getElem_cons_zero, Act.put, List.setIfInBounds_toArray, List.set_cons_zero, List.set_cons_succ]
        -- 14: Op.load 9 (Operand.tmp 53)
        refine' anyZ_take (i := 14) (v := _) rfl (by rfl) (by kernel_rfl) (by kernel_rfl) (by kernel_rfl) hcl13 28 (by kernel_rfl) (by kernel_rfl) (fun _ _ _ h => h) (Or.inl ⟨by rfl, fun w hSw => ?hra14⟩) hHeld (fun hcl14 => ?rra14)
        case hra14 => (simp only [List.getElem_toArray, List.getElem_cons_succ, List.getElem_cons_zero]; obtain ⟨⟨hS1, hS2, hS3⟩, hS4, hS5, hS6⟩ := hSw; first | (go_simp; with_reducible rfl) | (go_simp; done) | rfl)
        simp only [List.getElem_toArray, List.getElem_cons_succ, List.getElem_cons_zero, Act.put, List.setIfInBounds_toArray, List.set_cons_zero, List.set_cons_succ]
        -- 12: Op.call { callee := Callee.value (Operand.func 12), args := 
        refine anyZ_oneG (i := 12) hcl14 (by kernel_rfl) (by simp only [List.getElem?_toArray, List.getElem?_cons_succ, List.getElem?_cons_zero]; rfl) (by rfl) (fun hcl15 K hK => ?_)
        go_simp
        refine (HVA.out _).mono ?_
        rintro e wa ⟨rfl, hba⟩
        have HA := Lib.hid (btr H0.out hba)
        clear hba
        refine hK _ _ (fun _ => ?_) ?_
        · exact HS.out _ HA.out
        clear hK K hHeld
        have hHeld := (HS.out _ HA.out)
        try simp only [Act.put, List.setIfInBounds_toArray, List.set_cons_zero, List.set_cons_succ]
        -- 15: Op.call { callee := Callee.value (Operand.func 13), args := 
        refine anyZ_oneG (i := 15) hcl15 (by kernel_rfl) (by simp only [List.getElem?_toArray, List.getElem?_cons_succ, List.getElem?_cons_zero]; rfl) (by rfl) (fun hcl16 K hK => ?_)
        go_simp
        refine (HNU.out _).mono ?_
        rintro e wb ⟨rfl, hwb⟩
        have hwb' := hwb.symm
        subst hwb'
        clear hwb
        refine hK _ _ (fun _ => ?_) ?_
        · exact HS.out _ HA.out
        clear hK K hHeld
        have hHeld := (HS.out _ HA.out)
        try simp only [Act.put, List.setIfInBounds_toArray, List.set_cons_zero, List.set_cons_succ]
        -- 16: Op.binOp BinOp.neq 2 (Operand.tmp 52) (Operand.tmp 55) 2
        refine' anyZ_pure (i := 16) (v := _) rfl (by rfl) (by kernel_rfl) (by kernel_rfl) (by kernel_rfl) hcl16 (fun _ _ _ h => h) (Or.inl ⟨by rfl, fun w _ => ?hra17⟩) (fun _ => hHeld) (fun hcl17 => ?rra17)
        case hra17 => (simp only [List.getElem_toArray, List.getElem_cons_succ, List.getElem_cons_zero]; first | (go_simp; with_reducible rfl) | (go_simp; done) | rfl)
        simp only [List.getElem_toArray, List.getElem_cons_succ, List.getElem_cons_zero, Act.put, List.setIfInBounds_toArray, List.set_cons_zero, List.set_cons_succ]
        -- 17: Op.pick (Operand.tmp 50) (Operand.tmp 56) (Operand.const (Va
        refine' anyZ_pure (i := 17) (v := _) rfl (by rfl) (by kernel_rfl) (by kernel_rfl) (by kernel_rfl) hcl17 (fun _ _ _ h => h) (Or.inl ⟨by rfl, fun w _ => ?hra18⟩) (fun _ => hHeld) (fun hcl18 => ?rra18)
        case hra18 => (simp only [List.getElem_toArray, List.getElem_cons_succ, List.getElem_cons_zero]; first | (go_simp; with_reducible rfl) | (go_simp; done) | rfl)
        simp only [List.getElem_toArray, List.getElem_cons_succ, List.getElem_cons_zero, Act.put, List.setIfInBounds_toArray, List.set_cons_zero, List.set_cons_succ]
        -- 18: Op.pick (Operand.tmp 46) (Operand.const (Value.bool true)) (
        refine' anyZ_pure (i := 18) (v := _) rfl (by rfl) (by kernel_rfl) (by kernel_rfl) (by kernel_rfl) hcl18 (fun _ _ _ h => h) (Or.inl ⟨by rfl, fun w _ => ?hra19⟩) (fun _ => hHeld) (fun hcl19 => ?rra19)
        case hra19 => (simp only [List.getElem_toArray, List.getElem_cons_succ, List.getElem_cons_zero]; first | (go_simp; with_reducible rfl) | (go_simp; done) | rfl)
        simp only [List.getElem_toArray, List.getElem_cons_succ, List.getElem_cons_zero, Act.put, List.setIfInBounds_toArray, List.set_cons_zero, List.set_cons_succ]
        -- 19: Op.move (Operand.tmp 58)
        refine' anyZ_pure (i := 19) (v := _) rfl (by rfl) (by kernel_rfl) (by kernel_rfl) (by kernel_rfl) hcl19 (fun _ _ _ h => h) (Or.inl ⟨by rfl, fun w _ => ?hra20⟩) (fun _ => hHeld) (fun hcl20 => ?rra20)
        case hra20 => (simp only [List.getElem_toArray, List.getElem_cons_succ, List.getElem_cons_zero]; first | (go_simp; with_reducible rfl) | (go_simp; done) | rfl)
        simp only [List.getElem_toArray, List.getElem_cons_succ, List.getElem_cons_zero, Act.put, List.setIfInBounds_toArray, List.set_cons_zero, List.set_cons_succ]
        -- 20: Op.fieldAddr 32 (Operand.tmp 8) 0
        refine' anyZ_pure (i := 20) (v := _) rfl (by rfl) (by kernel_rfl) (by kernel_rfl) (by kernel_rfl) hcl20 (fun _ _ _ h => h) (Or.inl ⟨by rfl, fun w _ => ?hra21⟩) (fun _ => hHeld) (fun hcl21 => ?rra21)
        case hra21 => (simp only [List.getElem_toArray, List.getElem_cons_succ, List.getElem_cons_zero]; first | (go_simp; with_reducible rfl) | (go_simp; done) | rfl)
        simp only [List.getElem_toArray, List.getElem_cons_succ, List.getElem_cons_zero, Act.put, List.setIfInBounds_toArray, List.set_cons_zero, List.set_cons_succ]
        -- 21: Op.load 5 (Operand.tmp 60)
        refine' anyZ_take (i := 21) (v := _) rfl (by rfl) (by kernel_rfl) (by kernel_rfl) (by kernel_rfl) hcl21 28 (by kernel_rfl) (by kernel_rfl) (fun _ _ _ h => h) (Or.inl ⟨by rfl, fun w hSw => ?hra22⟩) hHeld (fun hcl22 => ?rra22)
        case hra22 => (simp only [List.getElem_toArray, List.getElem_cons_succ, List.getElem_cons_zero]; obtain ⟨⟨hS1, hS2, hS3⟩, hS4, hS5, hS6⟩ := hSw; first | (go_simp; with_reducible rfl) | (go_simp; done) | rfl)
        simp only [List.getElem_toArray, List.getElem_cons_succ, List.getElem_cons_zero, Act.put, List.setIfInBounds_toArray, List.set_cons_zero, List.set_cons_succ]
        -- 22: Op.binOp BinOp.neq 5 (Operand.tmp 61) (Operand.const (Value.
        refine' anyZ_pure (i := 22) (v := _) rfl (by rfl) (by kernel_rfl) (by kernel_rfl) (by kernel_rfl) hcl22 (fun _ _ _ h => h) (Or.inl ⟨by rfl, fun w _ => ?hra23⟩) (fun _ => hHeld) (fun hcl23 => ?rra23)
        case hra23 => (simp only [List.getElem_toArray, List.getElem_cons_succ, List.getElem_cons_zero]; first | (go_simp; with_reducible rfl) | (go_simp; done) | rfl)
        simp only [List.getElem_toArray, List.getElem_cons_succ, List.getElem_cons_zero, Act.put, List.setIfInBounds_toArray, List.set_cons_zero, List.set_cons_succ]
        -- 23: Op.move (Operand.tmp 62)
        refine' anyZ_pure (i := 23) (v := _) rfl (by rfl) (by kernel_rfl) (by kernel_rfl) (by kernel_rfl) hcl23 (fun _ _ _ h => h) (Or.inl ⟨by rfl, fun w _ => ?hra24⟩) (fun _ => hHeld) (fun hcl24 => ?rra24)
        case hra24 => (simp only [List.getElem_toArray, List.getElem_cons_succ, List.getElem_cons_zero]; first | (go_simp; with_reducible rfl) | (go_simp; done) | rfl)
        simp only [List.getElem_toArray, List.getElem_cons_succ, List.getElem_cons_zero, Act.put, List.setIfInBounds_toArray, List.set_cons_zero, List.set_cons_succ]
        -- 24 (not wanted): Op.load 32 (Operand.tmp 8)
        refine anyZ_oneSkip (i := 24) hcl24 (by kernel_rfl) (by simp only [List.getElem?_toArray, List.getElem?_cons_succ, List.getElem?_cons_zero]; rfl) (by rfl) (fun _ => hHeld) (fun hcl25 => ?_)
        simp only [Act.put, List.setIfInBounds_toArray, List.set_cons_zero, List.set_cons_succ]
        -- 25 (not wanted): Op.call { callee := Callee.value (Operand.func 12), args := 
        refine anyZ_oneSkip (i := 25) hcl25 (by kernel_rfl) (by simp only [List.getElem?_toArray, List.getElem?_cons_succ, List.getElem?_cons_zero]; rfl) (by rfl) (fun _ => hHeld) (fun hcl26 => ?_)
        simp only [Act.put, List.setIfInBounds_toArray, List.set_cons_zero, List.set_cons_succ]
        -- 26 (not wanted): Op.binOp BinOp.neq 2 (Operand.tmp 65) (Operand.const (Value.
        refine anyZ_oneSkip (i := 26) hcl26 (by kernel_rfl) (by simp only [List.getElem?_toArray, List.getElem?_cons_succ, List.getElem?_cons_zero]; rfl) (by rfl) (fun _ => hHeld) (fun hcl27 => ?_)
        simp only [Act.put, List.setIfInBounds_toArray, List.set_cons_zero, List.set_cons_succ]
        clear hHeld
        refine anyZ_chain_at (by kernel_rfl) ?_
        simp only [List.drop_succ_cons, List.drop_zero]
        have HF := Lib.hid (HB5.out.trans (HA.out.mono HB5.out.size))
        clear HA H0 HS HVA HNU hqn d1 d2 d3 d4
        go_wp2_with fail
        go_roundw
        case rel => exact ⟨j + 1, by omega, by go_num, HF⟩
        case measure => simp [intOf]; try omega
      · have d1 : ((k : Int) != 2) = true := by simp; omega
        have d2 : decide ((k : Int) = 2) = false := decide_eq_false (by omega)
        have d3 : ((k : Int) == 2) = false := d2
        have d4 : (k == 2) = false := beq_false_of_ne hk
        have HVA : Hid (∀ w', Calls Tryd.prog 12 #[.agg #[.int .u8 k, .string (mk8 T), .int .i64 p]] w' fun e w'' => e = .returned (.int .i64 0) ∧ Below w'.heap.size w' w'') := Lib.hid fun w' => value_no k (mk8 T) p hk w'
        refine region_anyZ (z := 27) (S := fun w' => (w'.cell? ⟨n8, 0, none⟩ = some (.int .u8 k) ∧ w'.cell? ⟨n8, 1, none⟩ = some (.string (mk8 T)) ∧ w'.cell? ⟨n8, 2, none⟩ = some (.int .i64 p)) ∧ (w'.cell? ⟨g', j * 3, none⟩ = some (.int .u8 k) ∧ w'.cell? ⟨g', j * 3 + 1, none⟩ = some (.string (mk8 T)) ∧ w'.cell? ⟨g', j * 3 + 2, none⟩ = some (.int .i64 p))) (by kernel_rfl) ?_
        refine anyZ_begin (fun hcl0 => ?_)
        refine anyZ_held (by exact HS.out _ H0.out) (fun hHeld => ?_)
        -- 0: Op.load 32 (Operand.tmp 8)
        refine' anyZ_take (i := 0) (v := _) rfl (by rfl) (by kernel_rfl) (by kernel_rfl) (by kernel_rfl) hcl0 28 (by kernel_rfl) (by kernel_rfl) (fun _ _ _ h => h) (Or.inl ⟨by rfl, fun w hSw => ?hrb1⟩) hHeld (fun hcl1 => ?rrb1)
        case hrb1 => (simp only [List.getElem_toArray, List.getElem_cons_zero]; obtain ⟨⟨hS1, hS2, hS3⟩, hS4, hS5, hS6⟩ := hSw; first | (go_simp; with_reducible rfl) | (go_simp; done) | rfl)
        simp only [List.getElem_toArray, List.getElem_cons_zero, Act.put, List.setIfInBounds_toArray, List.set_cons_zero, List.set_cons_succ]
        -- 1: Op.move (Operand.tmp 5)
        refine' anyZ_pure (i := 1) (v := _) rfl (by rfl) (by kernel_rfl) (by kernel_rfl) (by kernel_rfl) hcl1 (fun _ _ _ h => h) (Or.inl ⟨by rfl, fun w _ => ?hrb2⟩) (fun _ => hHeld) (fun hcl2 => ?rrb2)
        case hrb2 => (simp only [List.getElem_toArray, List.getElem_cons_succ, List.getElem_cons_zero]; first | (go_simp; with_reducible rfl) | (go_simp; done) | rfl)
        simp only [List.getElem_toArray, List.getElem_cons_succ, List.getElem_cons_zero, Act.put, List.setIfInBounds_toArray, List.set_cons_zero, List.set_cons_succ]
        -- 2: Op.move (Operand.tmp 7)
        refine' anyZ_pure (i := 2) (v := _) rfl (by rfl) (by kernel_rfl) (by kernel_rfl) (by kernel_rfl) hcl2 (fun _ _ _ h => h) (Or.inl ⟨by rfl, fun w _ => ?hrb3⟩) (fun _ => hHeld) (fun hcl3 => ?rrb3)
        case hrb3 => (simp only [List.getElem_toArray, List.getElem_cons_succ, List.getElem_cons_zero]; first | (go_simp; with_reducible rfl) | (go_simp; done) | rfl)
        simp only [List.getElem_toArray, List.getElem_cons_succ, List.getElem_cons_zero, Act.put, List.setIfInBounds_toArray, List.set_cons_zero, List.set_cons_succ]
        -- 3: Op.indexAddr 28 (Operand.tmp 41) (Operand.tmp 42)
        refine' anyZ_pure (i := 3) (v := _) rfl (by rfl) (by kernel_rfl) (by kernel_rfl) (by kernel_rfl) hcl3 (fun _ _ _ h => h) (Or.inl ⟨by rfl, fun w _ => ?hrb4⟩) (fun _ => hHeld) (fun hcl4 => ?rrb4)
        case hrb4 => (simp only [List.getElem_toArray, List.getElem_cons_succ, List.getElem_cons_zero]; first | (go_simp; with_reducible rfl) | (go_simp; done) | rfl)
        simp only [List.getElem_toArray, List.getElem_cons_succ, List.getElem_cons_zero, Act.put, List.setIfInBounds_toArray, List.set_cons_zero, List.set_cons_succ]
        -- 4: Op.load 33 (Operand.tmp 43)
        refine' anyZ_take (i := 4) (v := _) rfl (by rfl) (by kernel_rfl) (by kernel_rfl) (by kernel_rfl) hcl4 28 (by kernel_rfl) (by kernel_rfl) (fun _ _ _ h => h) (Or.inl ⟨by rfl, fun w hSw => ?hrb5⟩) hHeld (fun hcl5 => ?rrb5)
        case hrb5 => (simp only [List.getElem_toArray, List.getElem_cons_succ, List.getElem_cons_zero]; obtain ⟨⟨hS1, hS2, hS3⟩, hS4, hS5, hS6⟩ := hSw; first | (go_simp; with_reducible rfl) | (go_simp; done) | rfl)
        simp only [List.getElem_toArray, List.getElem_cons_succ, List.getElem_cons_zero, Act.put, List.setIfInBounds_toArray, List.set_cons_zero, List.set_cons_succ]
        -- 5: Op.binOp BinOp.neq 33 (Operand.tmp 40) (Operand.tmp 44) 33
        refine' anyZ_pure (i := 5) (v := _) rfl (by rfl) (by kernel_rfl) (by kernel_rfl) (by kernel_rfl) hcl5 (fun _ _ _ h => h) (Or.inl ⟨by rfl, fun w _ => ?hrb6⟩) (fun _ => hHeld) (fun hcl6 => ?rrb6)
        case hrb6 => (simp only [List.getElem_toArray, List.getElem_cons_succ, List.getElem_cons_zero]; first | (go_simp; with_reducible rfl) | (go_simp; done) | rfl)
        simp only [List.getElem_toArray, List.getElem_cons_succ, List.getElem_cons_zero, Act.put, List.setIfInBounds_toArray, List.set_cons_zero, List.set_cons_succ]
        -- 6: Op.move (Operand.tmp 45)
        refine' anyZ_pure (i := 6) (v := _) rfl (by rfl) (by kernel_rfl) (by kernel_rfl) (by kernel_rfl) hcl6 (fun _ _ _ h => h) (Or.inl ⟨by rfl, fun w _ => ?hrb7⟩) (fun _ => hHeld) (fun hcl7 => ?rrb7)
        case hrb7 => (simp only [List.getElem_toArray, List.getElem_cons_succ, List.getElem_cons_zero]; first | (go_simp; with_reducible rfl) | (go_simp; done) | rfl)
        simp only [List.getElem_toArray, List.getElem_cons_succ, List.getElem_cons_zero, Act.put, List.setIfInBounds_toArray, List.set_cons_zero, List.set_cons_succ]
        -- 7: Op.fieldAddr 32 (Operand.tmp 8) 0
        refine' anyZ_pure (i := 7) (v := _) rfl (by rfl) (by kernel_rfl) (by kernel_rfl) (by kernel_rfl) hcl7 (fun _ _ _ h => h) (Or.inl ⟨by rfl, fun w _ => ?hrb8⟩) (fun _ => hHeld) (fun hcl8 => ?rrb8)
        case hrb8 => (simp only [List.getElem_toArray, List.getElem_cons_succ, List.getElem_cons_zero]; first | (go_simp; with_reducible rfl) | (go_simp; done) | rfl)
        simp only [List.getElem_toArray, List.getElem_cons_succ, List.getElem_cons_zero, Act.put, List.setIfInBounds_toArray, List.set_cons_zero, List.set_cons_succ]
        -- 8: Op.load 5 (Operand.tmp 47)
        refine' anyZ_take (i := 8) (v := _) rfl (by rfl) (by kernel_rfl) (by kernel_rfl) (by kernel_rfl) hcl8 28 (by kernel_rfl) (by kernel_rfl) (fun _ _ _ h => h) (Or.inl ⟨by rfl, fun w hSw => ?hrb9⟩) hHeld (fun hcl9 => ?rrb9)
        case hrb9 => (simp only [List.getElem_toArray, List.getElem_cons_succ, List.getElem_cons_zero]; obtain ⟨⟨hS1, hS2, hS3⟩, hS4, hS5, hS6⟩ := hSw; first | (go_simp; with_reducible rfl) | (go_simp; done) | rfl)
        simp only [List.getElem_toArray, List.getElem_cons_succ, List.getElem_cons_zero, Act.put, List.setIfInBounds_toArray, List.set_cons_zero, List.set_cons_succ]
        -- 9: Op.binOp BinOp.eql 5 (Operand.tmp 48) (Operand.const (Value.
        refine' anyZ_pure (i := 9) (v := _) rfl (by rfl) (by kernel_rfl) (by kernel_rfl) (by kernel_rfl) hcl9 (fun _ _ _ h => h) (Or.inl ⟨by rfl, fun w _ => ?hrb10⟩) (fun _ => hHeld) (fun hcl10 => ?rrb10)
        case hrb10 => (simp only [List.getElem_toArray, List.getElem_cons_succ, List.getElem_cons_zero]; first | (go_simp; with_reducible rfl) | (go_simp; done) | rfl)
        simp only [List.getElem_toArray, List.getElem_cons_succ, List.getElem_cons_zero, Act.put, List.setIfInBounds_toArray, List.set_cons_zero, List.set_cons_succ]
        -- 10: Op.move (Operand.tmp 49)
        refine' anyZ_pure (i := 10) (v := _) rfl (by rfl) (by kernel_rfl) (by kernel_rfl) (by kernel_rfl) hcl10 (fun _ _ _ h => h) (Or.inl ⟨by rfl, fun w _ => ?hrb11⟩) (fun _ => hHeld) (fun hcl11 => ?rrb11)
        case hrb11 => (simp only [List.getElem_toArray, List.getElem_cons_succ, List.getElem_cons_zero]; first | (go_simp; with_reducible rfl) | (go_simp; done) | rfl)
        simp only [List.getElem_toArray, List.getElem_cons_succ, List.getElem_cons_zero, Act.put, List.setIfInBounds_toArray, List.set_cons_zero, List.set_cons_succ]
        -- 11 (not wanted): Op.load 32 (Operand.tmp 8)
        refine' anyZ_pure (i := 11) (v := undef) rfl (by rfl) (by kernel_rfl) (by kernel_rfl) (by kernel_rfl) hcl11 (fun _ _ _ h => h) (Or.inr ⟨by rfl, rfl⟩) (fun _ => hHeld) (fun hcl12 => ?rrb12)
        simp only [Act.put, List.setIfInBounds_toArray, List.set_cons_zero, List.set_cons_succ]
        -- 12 (not wanted): Op.call { callee := Callee.value (Operand.func 12), args := 
        refine' anyZ_pure (i := 12) (v := undef) rfl (by rfl) (by kernel_rfl) (by kernel_rfl) (by kernel_rfl) hcl12 (fun _ _ _ h => h) (Or.inr ⟨by rfl, rfl⟩) (fun _ => hHeld) (fun hcl13 => ?rrb13)
        simp only [Act.put, List.setIfInBounds_toArray, List.set_cons_zero, List.set_cons_succ]
        -- 13 (not wanted): Op.fieldAddr 32 (Operand.tmp 8) 1
        refine anyZ_oneSkip (i := 13) hcl13 (by kernel_rfl) (by simp only [List.getElem?_toArray, List.getElem?_cons_succ, List.getElem?_cons_zero]; rfl) (by rfl) (fun _ => hHeld) (fun hcl14 => ?_)
        simp only [Act.put, List.setIfInBounds_toArray, List.set_cons_zero, List.set_cons_succ]
        -- 14 (not wanted): Op.load 9 (Operand.tmp 53)
        refine anyZ_oneSkip (i := 14) hcl14 (by kernel_rfl) (by simp only [List.getElem?_toArray, List.getElem?_cons_succ, List.getElem?_cons_zero]; rfl) (by rfl) (fun _ => hHeld) (fun hcl15 => ?_)
        simp only [Act.put, List.setIfInBounds_toArray, List.set_cons_zero, List.set_cons_succ]
        -- 15 (not wanted): Op.call { callee := Callee.value (Operand.func 13), args := 
        refine anyZ_oneSkip (i := 15) hcl15 (by kernel_rfl) (by simp only [List.getElem?_toArray, List.getElem?_cons_succ, List.getElem?_cons_zero]; rfl) (by rfl) (fun _ => hHeld) (fun hcl16 => ?_)
        simp only [Act.put, List.setIfInBounds_toArray, List.set_cons_zero, List.set_cons_succ]
        -- 16 (not wanted): Op.binOp BinOp.neq 2 (Operand.tmp 52) (Operand.tmp 55) 2
        refine anyZ_oneSkip (i := 16) hcl16 (by kernel_rfl) (by simp only [List.getElem?_toArray, List.getElem?_cons_succ, List.getElem?_cons_zero]; rfl) (by rfl) (fun _ => hHeld) (fun hcl17 => ?_)
        simp only [Act.put, List.setIfInBounds_toArray, List.set_cons_zero, List.set_cons_succ]
        -- 17: Op.pick (Operand.tmp 50) (Operand.tmp 56) (Operand.const (Va
        refine' anyZ_pure (i := 17) (v := _) rfl (by rfl) (by kernel_rfl) (by kernel_rfl) (by kernel_rfl) hcl17 (fun _ _ _ h => h) (Or.inl ⟨by rfl, fun w _ => ?hrb18⟩) (fun _ => hHeld) (fun hcl18 => ?rrb18)
        case hrb18 => (simp only [List.getElem_toArray, List.getElem_cons_succ, List.getElem_cons_zero]; first | (go_simp; with_reducible rfl) | (go_simp; done) | rfl)
        simp only [List.getElem_toArray, List.getElem_cons_succ, List.getElem_cons_zero, Act.put, List.setIfInBounds_toArray, List.set_cons_zero, List.set_cons_succ]
        -- 18: Op.pick (Operand.tmp 46) (Operand.const (Value.bool true)) (
        refine' anyZ_pure (i := 18) (v := _) rfl (by rfl) (by kernel_rfl) (by kernel_rfl) (by kernel_rfl) hcl18 (fun _ _ _ h => h) (Or.inl ⟨by rfl, fun w _ => ?hrb19⟩) (fun _ => hHeld) (fun hcl19 => ?rrb19)
        case hrb19 => (simp only [List.getElem_toArray, List.getElem_cons_succ, List.getElem_cons_zero]; first | (go_simp; with_reducible rfl) | (go_simp; done) | rfl)
        simp only [List.getElem_toArray, List.getElem_cons_succ, List.getElem_cons_zero, Act.put, List.setIfInBounds_toArray, List.set_cons_zero, List.set_cons_succ]
        -- 19: Op.move (Operand.tmp 58)
        refine' anyZ_pure (i := 19) (v := _) rfl (by rfl) (by kernel_rfl) (by kernel_rfl) (by kernel_rfl) hcl19 (fun _ _ _ h => h) (Or.inl ⟨by rfl, fun w _ => ?hrb20⟩) (fun _ => hHeld) (fun hcl20 => ?rrb20)
        case hrb20 => (simp only [List.getElem_toArray, List.getElem_cons_succ, List.getElem_cons_zero]; first | (go_simp; with_reducible rfl) | (go_simp; done) | rfl)
        simp only [List.getElem_toArray, List.getElem_cons_succ, List.getElem_cons_zero, Act.put, List.setIfInBounds_toArray, List.set_cons_zero, List.set_cons_succ]
        -- 20: Op.fieldAddr 32 (Operand.tmp 8) 0
        refine' anyZ_pure (i := 20) (v := _) rfl (by rfl) (by kernel_rfl) (by kernel_rfl) (by kernel_rfl) hcl20 (fun _ _ _ h => h) (Or.inl ⟨by rfl, fun w _ => ?hrb21⟩) (fun _ => hHeld) (fun hcl21 => ?rrb21)
        case hrb21 => (simp only [List.getElem_toArray, List.getElem_cons_succ, List.getElem_cons_zero]; first | (go_simp; with_reducible rfl) | (go_simp; done) | rfl)
        simp only [List.getElem_toArray, List.getElem_cons_succ, List.getElem_cons_zero, Act.put, List.setIfInBounds_toArray, List.set_cons_zero, List.set_cons_succ]
        -- 21: Op.load 5 (Operand.tmp 60)
        refine' anyZ_take (i := 21) (v := _) rfl (by rfl) (by kernel_rfl) (by kernel_rfl) (by kernel_rfl) hcl21 28 (by kernel_rfl) (by kernel_rfl) (fun _ _ _ h => h) (Or.inl ⟨by rfl, fun w hSw => ?hrb22⟩) hHeld (fun hcl22 => ?rrb22)
        case hrb22 => (simp only [List.getElem_toArray, List.getElem_cons_succ, List.getElem_cons_zero]; obtain ⟨⟨hS1, hS2, hS3⟩, hS4, hS5, hS6⟩ := hSw; first | (go_simp; with_reducible rfl) | (go_simp; done) | rfl)
        simp only [List.getElem_toArray, List.getElem_cons_succ, List.getElem_cons_zero, Act.put, List.setIfInBounds_toArray, List.set_cons_zero, List.set_cons_succ]
        -- 22: Op.binOp BinOp.neq 5 (Operand.tmp 61) (Operand.const (Value.
        refine' anyZ_pure (i := 22) (v := _) rfl (by rfl) (by kernel_rfl) (by kernel_rfl) (by kernel_rfl) hcl22 (fun _ _ _ h => h) (Or.inl ⟨by rfl, fun w _ => ?hrb23⟩) (fun _ => hHeld) (fun hcl23 => ?rrb23)
        case hrb23 => (simp only [List.getElem_toArray, List.getElem_cons_succ, List.getElem_cons_zero]; first | (go_simp; with_reducible rfl) | (go_simp; done) | rfl)
        simp only [List.getElem_toArray, List.getElem_cons_succ, List.getElem_cons_zero, Act.put, List.setIfInBounds_toArray, List.set_cons_zero, List.set_cons_succ]
        -- 23: Op.move (Operand.tmp 62)
        refine' anyZ_pure (i := 23) (v := _) rfl (by rfl) (by kernel_rfl) (by kernel_rfl) (by kernel_rfl) hcl23 (fun _ _ _ h => h) (Or.inl ⟨by rfl, fun w _ => ?hrb24⟩) (fun _ => hHeld) (fun hcl24 => ?rrb24)
        case hrb24 => (simp only [List.getElem_toArray, List.getElem_cons_succ, List.getElem_cons_zero]; first | (go_simp; with_reducible rfl) | (go_simp; done) | rfl)
        simp only [List.getElem_toArray, List.getElem_cons_succ, List.getElem_cons_zero, Act.put, List.setIfInBounds_toArray, List.set_cons_zero, List.set_cons_succ]
        -- 24: Op.load 32 (Operand.tmp 8)
        refine' anyZ_take (i := 24) (v := _) rfl (by rfl) (by kernel_rfl) (by kernel_rfl) (by kernel_rfl) hcl24 28 (by kernel_rfl) (by kernel_rfl) (fun _ _ _ h => h) (Or.inl ⟨by rfl, fun w hSw => ?hrb25⟩) hHeld (fun hcl25 => ?rrb25)
        case hrb25 => (simp only [List.getElem_toArray, List.getElem_cons_succ, List.getElem_cons_zero]; obtain ⟨⟨hS1, hS2, hS3⟩, hS4, hS5, hS6⟩ := hSw; first | (go_simp; with_reducible rfl) | (go_simp; done) | rfl)
        simp only [List.getElem_toArray, List.getElem_cons_succ, List.getElem_cons_zero, Act.put, List.setIfInBounds_toArray, List.set_cons_zero, List.set_cons_succ]
        -- 25: Op.call { callee := Callee.value (Operand.func 12), args := 
        refine anyZ_oneG (i := 25) hcl25 (by kernel_rfl) (by simp only [List.getElem?_toArray, List.getElem?_cons_succ, List.getElem?_cons_zero]; rfl) (by rfl) (fun hcl26 K hK => ?_)
        go_simp
        refine (HVA.out _).mono ?_
        rintro e wa ⟨rfl, hba⟩
        have HA := Lib.hid (btr H0.out hba)
        clear hba
        refine hK _ _ (fun _ => ?_) ?_
        · exact HS.out _ HA.out
        clear hK K hHeld
        have hHeld := (HS.out _ HA.out)
        try simp only [Act.put, List.setIfInBounds_toArray, List.set_cons_zero, List.set_cons_succ]
        -- 26: Op.binOp BinOp.neq 2 (Operand.tmp 65) (Operand.const (Value.
        refine' anyZ_pure (i := 26) (v := _) rfl (by rfl) (by kernel_rfl) (by kernel_rfl) (by kernel_rfl) hcl26 (fun _ _ _ h => h) (Or.inl ⟨by rfl, fun w _ => ?hrb27⟩) (fun _ => hHeld) (fun hcl27 => ?rrb27)
        case hrb27 => (simp only [List.getElem_toArray, List.getElem_cons_succ, List.getElem_cons_zero]; first | (go_simp; with_reducible rfl) | (go_simp; done) | rfl)
        simp only [List.getElem_toArray, List.getElem_cons_succ, List.getElem_cons_zero, Act.put, List.setIfInBounds_toArray, List.set_cons_zero, List.set_cons_succ]
        clear hHeld
        refine anyZ_chain_at (by kernel_rfl) ?_
        simp only [List.drop_succ_cons, List.drop_zero]
        have HF := Lib.hid (HB5.out.trans (HA.out.mono HB5.out.size))
        clear HA H0 HS HVA hqn d1 d2 d3 d4
        go_wp2_with fail
        go_roundw
        case rel => exact ⟨j + 1, by omega, by go_num, HF⟩
        case measure => simp [intOf]; try omega
end Go.Proofs.YtffghdehimhpiaaDoor
