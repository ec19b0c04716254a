/- Walk: the law of tokens that are joined and read again. -/
import Derived.Test.YtffghdehimhpiaaDoorTkJoin
import Derived.Test.YtffghdehimhpiaaDoorTkSigns
namespace Go.Proofs.YtffghdehimhpiaaDoor
open Go.RowKit

theorem toks_flat : ∀ (f i : Nat) (l : List UInt8) (ts : List Tok), toks f i l = some ts → (ts.flatMap Tok.text).length ≤ l.length := by
  intro f
  induction f with
  | zero => intro i l ts h; cases h
  | succ f ih =>
    intro i l ts h
    cases l with
    | nil => cases h; simp
    | cons b r =>
      rw [toks] at h
      by_cases h1 : classOf b.toNat = 3
      · rw [if_pos h1] at h
        have := ih _ _ _ h
        rw [List.length_cons]
        omega
      rw [if_neg h1] at h
      by_cases h2 : b.toNat = 35
      · rw [if_pos h2] at h
        have := ih _ _ _ h
        rw [List.length_drop] at this
        omega
      rw [if_neg h2] at h
      by_cases h3 : (tokAt (b :: r)).1 = 0
      · rw [if_pos h3] at h; cases h
      rw [if_neg h3] at h
      have hl := tok_le (b :: r)
      generalize tokAt (b :: r) = kn at *
      cases hq : toks f (i + kn.2) ((b :: r).drop kn.2) with
      | none => rw [hq] at h; cases h
      | some ts' =>
        rw [hq] at h
        cases h
        have := ih _ _ _ hq
        rw [List.length_drop] at this
        rw [List.flatMap_cons, List.length_append, List.length_take]
        omega

theorem wide_len (sep : List UInt8) (ts : List Tok) : (wideOf sep ts).length = (ts.flatMap Tok.text).length + ts.length * sep.length := by
  induction ts with
  | nil => simp [wideOf]
  | cons t ts ih =>
    rw [wideOf, List.length_append, List.length_append, ih, List.flatMap_cons, List.length_append, List.length_cons, Nat.add_mul]
    omega

theorem join_len (ts : List Tok) : (Lib.join (ts.map Tok.text) [32]).length ≤ (ts.flatMap Tok.text).length + ts.length := by
  induction ts with
  | nil => simp [Lib.join]
  | cons t ts ih =>
    cases ts with
    | nil => rw [show Lib.join (List.map Tok.text [t]) [32] = t.text by simp [Lib.join]]; simp
    | cons u ts =>
      rw [List.map_cons, List.map_cons, join_two, List.length_append, List.length_cons, List.flatMap_cons, List.length_append, List.length_cons]
      rw [List.map_cons] at ih
      omega

theorem seps_len (r : Nat) : (sepRows.getD r []).length ≤ 7 := by
  rcases (by omega : r = 0 ∨ r = 1 ∨ r = 2 ∨ r = 3 ∨ r = 4 ∨ 5 ≤ r) with rfl | rfl | rfl | rfl | rfl | h
  · decide
  · decide
  · decide
  · decide
  · decide
  · rw [List.getD_eq_getElem?_getD, List.getElem?_eq_none (by show 5 ≤ r; exact h)]
    decide

set_option linter.unusedSimpArgs false in
set_option maxRecDepth 100000 in
set_option maxHeartbeats 6400000 in
theorem joins_calls (s : ByteArray) (hs : s.size ≤ 9223372036854775807) (k : Nat) (hk : k < 256) (w : World) (ht : Tb w.heap.size w) : Calls Tryd.prog 7 #[.string s, .int .u8 k] w fun e w' => e = .returned (.bool true) ∧ Below w.heap.size w w' := by
  have HT := Lib.hid ht
  have HTX := Lib.hid (fun w' => text_any s 400 w' hs (by omega))
  obtain ⟨r, hr⟩ : ∃ r, r = k % 5 := ⟨_, rfl⟩
  have hri : (k : Int) % 5 = r := by omega
  have hr5 : r < 5 := by omega
  clear ht hs hr
  go_enter Tryd.func7, Tryd.ntmps7
  go_wp2_with fail
  refine (awake_any w HT.out).mono ?_
  rintro e w1 ⟨rfl, hb1⟩
  have HB1 := Lib.hid hb1
  clear hb1
  go_wp2_with fail
  refine (HTX.out w1).mono ?_
  rintro e w2 ⟨rfl, hw⟩
  have hw' := hw.symm
  subst hw'
  clear hw HTX
  have hsz := first_size s 400
  generalize firstOf s 400 = s8 at *
  go_wp2_with fail
  refine (all_any s8 (by omega) _ ((HT.out.below HB1.out).mono' HB1.out.size)).mono ?_
  rintro e w3 ⟨hno, hyes, hb3⟩
  cases hq : toksOf s8.data.toList with
  | none =>
    obtain rfl := hno hq
    have HB3 := Lib.hid (btr HB1.out hb3)
    clear hno hyes hb3 hq HB1
    go_wp2_with fail
    go_ret
    exact ⟨rfl, HB3.out⟩
  | some ts =>
    obtain ⟨v, rfl, hown⟩ := hyes ts hq
    obtain ⟨a3, c3, rfl, -, -, -, -⟩ := id hown.at
    have HB3 := Lib.hid (btr HB1.out hb3)
    have hgood := tok_good hq
    have htq : toks (s8.data.toList.length + 1) 0 s8.data.toList = some ts := by have := hq; unfold toksOf toksFrom at this; rw [List.drop_zero] at this; exact this
    have hfl := toks_flat _ _ _ _ htq
    have hnl := (toks_bound_ _ _ _ _ htq).1
    rw [str_len] at hfl hnl
    have HC : Hid (ts = [] ∨ ∃ g, a3 = some ⟨g, 0, none⟩ ∧ g < w3.heap.size ∧ ∀ (j : Nat) t, ts[j]? = some t → w3.cell? ⟨g, j * 3, none⟩ = some (.int .u8 t.kind) ∧ w3.cell? ⟨g, j * 3 + 1, none⟩ = some (.string (mk8 t.text)) ∧ w3.cell? ⟨g, j * 3 + 2, none⟩ = some (.int .i64 t.pos)) := Lib.hid (by
      by_cases hne : ts = []
      · exact .inl hne
      · obtain ⟨g, c, e3, hg, hcs⟩ := own_open hown hne
        cases e3
        exact .inr ⟨g, rfl, hg, hcs⟩)
    obtain ⟨n, hn⟩ : ∃ n, n = ts.length := ⟨_, rfl⟩
    rw [← hn] at hnl ⊢
    have hn1 : n ≤ 400 := by omega
    have hjl := join_len ts
    rw [← hn] at hjl
    have hw7 := seps_len r
    have hwl := wide_len (sepRows.getD r []) ts
    rw [← hn] at hwl
    have hmul : n * (sepRows.getD r []).length ≤ 400 * 7 := Nat.mul_le_mul hn1 hw7
    have HJ := Lib.hid (tjoin_any a3 c3 n ts w3 hn.symm (by omega) (by
      rcases HC.out with h | ⟨g, h1, h2, h3⟩
      · exact .inl (by rw [hn, h]; rfl)
      · exact .inr ⟨g, h1, h2, h3⟩) (by omega))
    have hjs : (mk8 (Lib.join (ts.map Tok.text) [32])).size ≤ 800 := by rw [mk8_len]; omega
    have HRJ := Lib.hid (reads_join ts hgood).of
    have HRN := Lib.hid (reads_none (reads_join ts hgood)).of
    have HRW := Lib.hid (reads_wide (sep_ok r hr5) ts hgood).of
    have HWL : Hid ((wideOf (sepRows.getD r []) ts).length ≤ 3200) := Lib.hid (by omega)
    have HFL : Hid ((ts.flatMap Tok.text).length ≤ 400) := Lib.hid (by omega)
    have HN := Lib.hid hn
    have hsep : (mk8 (sepRows.getD r [])).size ≤ 7 := by rw [mk8_len]; exact hw7
    clear hno hyes hb3 hq hown HB1 hgood htq hfl hnl hn hjl hw7 hwl hmul hsz
    obtain ⟨J, hJ⟩ : ∃ J, J = Lib.join (ts.map Tok.text) [32] := ⟨_, rfl⟩
    rw [← hJ] at HJ hjs HRJ HRN
    clear hJ
    go_wp2_with fail
    refine HJ.out.mono ?_
    rintro e w4 ⟨rfl, hb4⟩
    have HB4 := Lib.hid (btr HB3.out hb4)
    have HC4 : Hid (ts = [] ∨ ∃ g, a3 = some ⟨g, 0, none⟩ ∧ g < w4.heap.size ∧ ∀ (j : Nat) t, ts[j]? = some t → w4.cell? ⟨g, j * 3, none⟩ = some (.int .u8 t.kind) ∧ w4.cell? ⟨g, j * 3 + 1, none⟩ = some (.string (mk8 t.text)) ∧ w4.cell? ⟨g, j * 3 + 2, none⟩ = some (.int .i64 t.pos)) := Lib.hid (by
      rcases HC.out with h | ⟨g, h1, h2, h3⟩
      · exact .inl h
      · refine .inr ⟨g, h1, Nat.lt_of_lt_of_le h2 hb4.size, fun j t hj => ?_⟩
        obtain ⟨k0, k1, k2⟩ := h3 j t hj
        exact ⟨(hb4.cell (p := ⟨g, j * 3, none⟩) h2).trans k0, (hb4.cell (p := ⟨g, j * 3 + 1, none⟩) h2).trans k1, (hb4.cell (p := ⟨g, j * 3 + 2, none⟩) h2).trans k2⟩)
    obtain ⟨sep, hse⟩ : ∃ sep, sep = sepRows.getD r [] := ⟨_, rfl⟩
    have hcl : (w4.alloc (.cells #[.string ⟨#[32]⟩, .string ⟨#[9]⟩, .string ⟨#[10]⟩, .string ⟨#[32, 35, 32, 120, 32, 33, 10]⟩, .string ⟨#[32, 32]⟩] 9)).cell? ⟨w4.heap.size, r, none⟩ = some (.string (mk8 sep)) := by
      rw [cell_of_row _ _ r _ _ _ (heap_alloc_new w4 _), hse]
      rcases (by omega : r = 0 ∨ r = 1 ∨ r = 2 ∨ r = 3 ∨ r = 4) with rfl | rfl | rfl | rfl | rfl <;> rfl
    rw [← hse] at hsep HRW HWL
    clear hb4 HB3 HC hse HJ
    generalize hjj : mk8 J = jj at *
    have HJJ := Lib.hid hjj
    clear hjj
    go_upto_region 9 with fail
    have hb5 := bal (bre w4) (.cells #[.string ⟨#[32]⟩, .string ⟨#[9]⟩, .string ⟨#[10]⟩, .string ⟨#[32, 35, 32, 120, 32, 33, 10]⟩, .string ⟨#[32, 32]⟩] 9)
    generalize w4.alloc (.cells #[.string ⟨#[32]⟩, .string ⟨#[9]⟩, .string ⟨#[10]⟩, .string ⟨#[32, 35, 32, 120, 32, 33, 10]⟩, .string ⟨#[32, 32]⟩] 9) = w5 at *
    have HB5 := Lib.hid (btr HB4.out hb5)
    have HC5 : Hid (ts = [] ∨ ∃ g, a3 = some ⟨g, 0, none⟩ ∧ ∀ w', Below w5.heap.size w5 w' → ∀ (j : Nat) t, ts[j]? = some t → w'.cell? ⟨g, j * 3, none⟩ = some (.int .u8 t.kind) ∧ w'.cell? ⟨g, j * 3 + 1, none⟩ = some (.string (mk8 t.text)) ∧ w'.cell? ⟨g, j * 3 + 2, none⟩ = some (.int .i64 t.pos)) := Lib.hid (by
      rcases HC4.out with h | ⟨g, h1, h2, h3⟩
      · exact .inl h
      · refine .inr ⟨g, h1, fun w' hb j t hj => ?_⟩
        obtain ⟨k0, k1, k2⟩ := h3 j t hj
        have hb' := btr hb5 hb
        exact ⟨(hb'.cell (p := ⟨g, j * 3, none⟩) h2).trans k0, (hb'.cell (p := ⟨g, j * 3 + 1, none⟩) h2).trans k1, (hb'.cell (p := ⟨g, j * 3 + 2, none⟩) h2).trans k2⟩)
    obtain ⟨sp, hsp⟩ : ∃ sp, sp = mk8 sep := ⟨_, rfl⟩
    rw [← hsp] at hsep ⊢
    have HSP := Lib.hid hsp
    clear hb5 hcl HB4 HC4 hsp hri hr5 hk
    go_wp2_with fail
    go_loopw [9, 11, 40] (fun t _ i wr => ∃ j : Nat, j ≤ n ∧ i = .int .i64 j ∧ t = .string (mk8 (wideOf sep (ts.take j))) ∧ Hid (Below w5.heap.size w5 wr)) (fun _ _ i _ => n - (intOf i).toNat)
    case atStart => exact ⟨0, by omega, rfl, rfl, Lib.hid (bre w5)⟩
    case round =>
      obtain ⟨j, hj, rfl, rfl, hbl⟩ := hrel
      by_cases hlt : j < n
      · obtain h0 | ⟨g, rfl, hcs⟩ := HC5.out
        · have := HN.out; rw [h0] at this; simp at this; omega
        have hjl : j < ts.length := by rw [← HN.out]; exact hlt
        obtain ⟨t, htj⟩ : ∃ t, ts[j]? = some t := ⟨_, List.getElem?_eq_getElem hjl⟩
        obtain ⟨c0, c1, c2⟩ := hcs wr hbl.out j t htj
        have htk : wideOf sep (ts.take (j + 1)) = wideOf sep (ts.take j) ++ t.text ++ sep := by
          rw [List.take_succ_eq_append_getElem hjl, wide_snoc]
          rw [List.getElem?_eq_getElem hjl] at htj
          cases htj
          rfl
        have hle : (wideOf sep (ts.take (j + 1))).length ≤ 3200 := by
          have h1 := wide_len sep (ts.take (j + 1))
          have h2 := wide_len sep ts
          have h3 : ts.flatMap Tok.text = (ts.take (j + 1)).flatMap Tok.text ++ (ts.drop (j + 1)).flatMap Tok.text := by rw [← List.flatMap_append, List.take_append_drop]
          have h4 := congrArg List.length h3
          rw [List.length_append] at h4
          have h5 : (ts.take (j + 1)).length * sep.length ≤ ts.length * sep.length := Nat.mul_le_mul_right _ (by rw [List.length_take]; omega)
          have := HWL.out
          omega
        have hz : (wideOf sep (ts.take j)).length + t.text.length + sep.length ≤ 3200 := by rw [htk, List.length_append, List.length_append] at hle; exact hle
        have happ : mk8 (wideOf sep (ts.take (j + 1))) = mk8 (wideOf sep (ts.take j)) ++ (mk8 t.text ++ sp) := by rw [HSP.out, mk8_app, mk8_app, htk, List.append_assoc]
        have hz1 := mk8_len (wideOf sep (ts.take j))
        have hz2 := mk8_len t.text
        obtain ⟨k, T, p⟩ := t
        simp only at c0 c1 c2 happ hz hz2
        have HAPP := Lib.hid happ
        have hza : (mk8 (wideOf sep (ts.take j))).size ≤ 3200 := by omega
        have hzb : (mk8 T).size ≤ 3200 := by omega
        have hzc : (mk8 T ++ sp).size ≤ 3207 := by rw [ByteArray.size_append]; omega
        generalize mk8 (wideOf sep (ts.take j)) = ss at *
        generalize mk8 T = TT at *
        clear hcs hjl htj htk hle hz happ hz1 hz2
        go_upto_region 13 with fail
        have hb6 := bal (bre wr) (.cells #[.int .u8 k, .string TT, .int .i64 p] 32)
        have hr6 := heap_alloc_new wr (.cells #[.int .u8 k, .string TT, .int .i64 p] 32)
        generalize wr.alloc (.cells #[.int .u8 k, .string TT, .int .i64 p] 32) = w6 at *
        obtain ⟨n8, hn8⟩ : ∃ n, n = wr.heap.size := ⟨_, rfl⟩
        rw [← hn8] at hr6 ⊢
        have HB6 : Hid (Below w5.heap.size w5 w6) := Lib.hid (hbl.out.trans (hb6.mono hbl.out.size))
        have e1 := cell_of_row w6 n8 1 _ _ _ hr6
        clear hb6 hr6 hn8 c0 c1 c2 hbl
        go_wp2_with fail
        go_roundw
        case rel => exact ⟨j + 1, by omega, by go_num, by rw [HAPP.out], HB6⟩
        case measure => simp [intOf]; try omega
      · have ej : j = n := by omega
        have hall : wideOf sep (ts.take j) = wideOf sep ts := by rw [ej, HN.out, List.take_length]
        rw [hall]
        have hzw : (mk8 (wideOf sep ts)).size ≤ 3200 := by rw [mk8_len]; exact HWL.out
        have HBR := Lib.hid (btr HB5.out hbl.out)
        have HCR : Hid (ts = [] ∨ ∃ g, a3 = some ⟨g, 0, none⟩ ∧ ∀ w', Below wr.heap.size wr w' → ∀ (j : Nat) t, ts[j]? = some t → w'.cell? ⟨g, j * 3, none⟩ = some (.int .u8 t.kind) ∧ w'.cell? ⟨g, j * 3 + 1, none⟩ = some (.string (mk8 t.text)) ∧ w'.cell? ⟨g, j * 3 + 2, none⟩ = some (.int .i64 t.pos)) := Lib.hid (by
          rcases HC5.out with h | ⟨g, h1, h3⟩
          · exact .inl h
          · exact .inr ⟨g, h1, fun w' hb => h3 w' (btr hbl.out hb)⟩)
        have HRW' : Hid (∃ ts', toksOf (mk8 (wideOf sep ts)).data.toList = some ts' ∧ shapeOf ts' = shapeOf ts) := HRW
        have HRJ' : Hid (∃ ts', toksOf jj.data.toList = some ts' ∧ shapeOf ts' = shapeOf ts) := Lib.hid (by rw [← HJJ.out]; exact HRJ.out)
        have hnj : (ByteArray.mk #[35, 32, 110, 111, 110, 101, 10]) ++ jj = mk8 ([35, 32, 110, 111, 110, 101, 10] ++ J) := by rw [← HJJ.out]; exact mk8_app [35, 32, 110, 111, 110, 101, 10] J
        have HRN' : Hid (∃ ts', toksOf ((ByteArray.mk #[35, 32, 110, 111, 110, 101, 10]) ++ jj).data.toList = some ts' ∧ shapeOf ts' = shapeOf ts) := Lib.hid (by rw [hnj]; exact HRN.out)
        have hnz : ((ByteArray.mk #[35, 32, 110, 111, 110, 101, 10]) ++ jj).size ≤ 807 := by rw [ByteArray.size_append]; show 7 + jj.size ≤ 807; omega
        subst ej
        generalize mk8 (wideOf sep ts) = ww at *
        clear hlt hj hall hbl HC5 HWL HFL HSP HRW HRJ HRN HJJ HB5 hnj
        obtain ⟨nj, hnj⟩ : ∃ nj, nj = (ByteArray.mk #[35, 32, 110, 111, 110, 101, 10]) ++ jj := ⟨_, rfl⟩
        rw [← hnj] at HRN' hnz
        have HNJ := Lib.hid hnj
        clear hnj
        go_upto_block 5 with fail
        rw [← HNJ.out]
        have hb6 := bal (bre wr) (.cells #[.string jj, .string ww, .string nj] 9)
        have hr6 := heap_alloc_new wr (.cells #[.string jj, .string ww, .string nj] 9)
        generalize wr.alloc (.cells #[.string jj, .string ww, .string nj] 9) = w6 at *
        obtain ⟨n6, hn6⟩ : ∃ n, n = wr.heap.size := ⟨_, rfl⟩
        rw [← hn6] at hr6 ⊢
        have HB6 := Lib.hid (btr HBR.out hb6)
        have HT6 : Hid (Tb w6.heap.size w6) := Lib.hid ((HT.out.below HB6.out).mono' HB6.out.size)
        have HU : Hid (∀ w', Below w6.heap.size w6 w' → ∀ i, i < 3 → ∃ u : ByteArray, w'.cell? ⟨n6, i, none⟩ = some (.string u) ∧ u.size ≤ 200000 ∧ ∃ ts', toksOf u.data.toList = some ts' ∧ shapeOf ts' = shapeOf ts) := Lib.hid fun w' hb i hi => by
          have hr := (hb.block n6 (Array.getElem?_eq_some_iff.1 hr6).1).trans hr6
          rcases (by omega : i = 0 ∨ i = 1 ∨ i = 2) with rfl | rfl | rfl
          · exact ⟨jj, cell_of_row w' n6 0 _ _ _ hr, by omega, HRJ'.out⟩
          · exact ⟨ww, cell_of_row w' n6 1 _ _ _ hr, by omega, HRW'.out⟩
          · exact ⟨nj, cell_of_row w' n6 2 _ _ _ hr, by omega, HRN'.out⟩
        have HC6 : Hid (∀ (i : Nat) t, ts[i]? = some t → ∃ g, a3 = some ⟨g, 0, none⟩ ∧ ∀ w', Below w6.heap.size w6 w' → w'.cell? ⟨g, i * 3, none⟩ = some (.int .u8 t.kind) ∧ w'.cell? ⟨g, i * 3 + 1, none⟩ = some (.string (mk8 t.text)) ∧ w'.cell? ⟨g, i * 3 + 2, none⟩ = some (.int .i64 t.pos)) := Lib.hid (fun i t hi => by
          rcases HCR.out with h | ⟨g, h1, h3⟩
          · rw [h] at hi; simp at hi
          · exact ⟨g, h1, fun w' hb => h3 w' (btr hb6 hb) i t hi⟩)
        clear hb6 hr6 hn6 HBR HCR HRJ' HRW' HRN' HNJ hzw hnz hjs
        go_loopw [57] (fun i wr => ∃ q : Nat, q ≤ 3 ∧ i = .int .i64 q ∧ Hid (Below w6.heap.size w6 wr)) (fun i _ => 3 - (intOf i).toNat)
        case atStart => exact ⟨0, by omega, rfl, Lib.hid (bre w6)⟩
        case round =>
          obtain ⟨q, hq, rfl, hbl⟩ := hrel
          by_cases hlt : q < 3
          · obtain ⟨u, hu, husz, ts', hts, hsh⟩ := HU.out _ hbl.out q hlt
            have HTS := Lib.hid hts
            have HSH := Lib.hid hsh
            have HTQ : Hid (Tb wr.heap.size wr) := Lib.hid ((HT6.out.below hbl.out).mono' hbl.out.size)
            clear hts hsh
            have d1 : decide ((q : Int) < 3) = true := decide_eq_true (by omega)
            have d2 : decide (q < 3) = true := decide_eq_true hlt
            go_wp2_with fail
            refine (all_any u husz wr HTQ.out).mono ?_
            rintro e w7 ⟨-, hyes, hb7⟩
            obtain ⟨v7, rfl, hown7⟩ := hyes _ HTS.out
            obtain ⟨a7, c7, rfl, -, -, -, -⟩ := id hown7.at
            have hl7 : ts'.length = j := by
              have := congrArg List.length HSH.out
              unfold shapeOf at this
              rw [List.length_map, List.length_map, ← HN.out] at this
              exact this
            have HO7 : Hid (∀ (i : Nat) t, ts'[i]? = some t → ∃ g, a7 = some ⟨g, 0, none⟩ ∧ ∀ w', Below w7.heap.size w7 w' → w'.cell? ⟨g, i * 3, none⟩ = some (.int .u8 t.kind) ∧ w'.cell? ⟨g, i * 3 + 1, none⟩ = some (.string (mk8 t.text)) ∧ w'.cell? ⟨g, i * 3 + 2, none⟩ = some (.int .i64 t.pos)) := Lib.hid (fun i t hi => by
              obtain ⟨g, c, e3, hg, hcs⟩ := own_open hown7 (by intro h; rw [h] at hi; simp at hi)
              cases e3
              refine ⟨g, rfl, fun w' hb => ?_⟩
              obtain ⟨k0, k1, k2⟩ := hcs i t hi
              exact ⟨(hb.cell (p := ⟨g, i * 3, none⟩) hg).trans k0, (hb.cell (p := ⟨g, i * 3 + 1, none⟩) hg).trans k1, (hb.cell (p := ⟨g, i * 3 + 2, none⟩) hg).trans k2⟩)
            rw [hl7]
            have HL7 := Lib.hid hl7
            have HB7 : Hid (Below w6.heap.size w6 w7) := Lib.hid (hbl.out.trans (hb7.mono hbl.out.size))
            clear hyes hb7 hown7 hl7 hu husz HTQ HTS hbl d1 d2
            go_wp2_with fail
            go_loopw [16, 77] (fun _ i wi => ∃ m : Nat, m ≤ j ∧ i = .int .i64 m ∧ Hid (Below w7.heap.size w7 wi)) (fun _ i _ => j - (intOf i).toNat)
            case atStart => exact ⟨0, by omega, rfl, Lib.hid (bre w7)⟩
            case round =>
              obtain ⟨m, hm, rfl, hbi⟩ := hrel
              by_cases hlm : m < j
              · obtain ⟨t, htm⟩ : ∃ t, ts[m]? = some t := ⟨_, List.getElem?_eq_getElem (by rw [← HN.out]; exact hlm)⟩
                obtain ⟨t', htm'⟩ : ∃ t, ts'[m]? = some t := ⟨_, List.getElem?_eq_getElem (by rw [HL7.out]; exact hlm)⟩
                have hkt : (t'.kind, t'.text) = (t.kind, t.text) := by
                  have h1 : (shapeOf ts')[m]? = some (t'.kind, t'.text) := by unfold shapeOf; rw [List.getElem?_map, htm']; rfl
                  have h2 : (shapeOf ts)[m]? = some (t.kind, t.text) := by unfold shapeOf; rw [List.getElem?_map, htm]; rfl
                  rw [HSH.out, h2] at h1
                  exact (Option.some.inj h1).symm
                obtain ⟨g, rfl, hc⟩ := HC6.out m t htm
                obtain ⟨g', rfl, hc'⟩ := HO7.out m t' htm'
                obtain ⟨c0, c1, -⟩ := hc wr (HB7.out.trans (hbi.out.mono HB7.out.size))
                obtain ⟨e0, e1, -⟩ := hc' wr hbi.out
                rw [show t'.kind = t.kind from congrArg Prod.fst hkt] at e0
                rw [show t'.text = t.text from congrArg Prod.snd hkt] at e1
                generalize mk8 t.text = TT at *
                generalize t.kind = kk at *
                clear htm htm' hkt hc hc'
                go_upto_region 24 with fail
                go_quiet (fail)
                go_wp2_with fail
                have HBI := Lib.hid (bdn hbi.out nq)
                go_roundw
                case rel => exact ⟨m + 1, by omega, by go_num, HBI⟩
                case measure => simp [intOf]; try omega
              · have em : m = j := by omega
                have HBO : Hid (Below w6.heap.size w6 wr) := Lib.hid (HB7.out.trans (hbi.out.mono HB7.out.size))
                clear HO7 HL7 HSH HB7 HC6 hbi HU HT6
                subst em
                go_wp2_with fail
                go_roundw
                case rel => exact ⟨q + 1, by omega, by go_num, HBO⟩
                case measure => simp [intOf]; try omega
          · have e3 : q = 3 := by omega
            subst e3
            have HBF := Lib.hid (btr HB6.out hbl.out)
            clear hlt hq hbl HU HC6 HT6 HB6
            go_wp2_with fail
            go_ret
            exact ⟨rfl, HBF.out⟩
end Go.Proofs.YtffghdehimhpiaaDoor
