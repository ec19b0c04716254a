/- Walk: the law of signs that stand one behind the other, and of a number's value. -/
import Derived.Test.YtffghdehimhpiaaDoorTkDec
import Derived.Test.YtffghdehimhpiaaDoorTkPlaces
import Derived.Test.YtffghdehimhpiaaDoorTkJoinP
namespace Go.Proofs.YtffghdehimhpiaaDoor
open Go.RowKit

theorem row_signy (k : Nat) : ∀ b ∈ signRows.getD k [], signy b := by
  rw [List.getD_eq_getElem?_getD]
  cases h : signRows[k]? with
  | none => intro b hb; simp at hb
  | some r => exact rows_signy r (List.mem_of_getElem? h)

theorem row_short (k : Nat) : (signRows.getD k []).length ≤ 2 := by
  rw [List.getD_eq_getElem?_getD]
  cases h : signRows[k]? with
  | none => simp
  | some r => exact (rows_len r (List.mem_of_getElem? h)).2

theorem wf_i64' {n : Int} (h : (Lit.int .i64 n).wf = true) : -9223372036854775808 ≤ n ∧ n ≤ 9223372036854775807 := by
  simp [Lit.wf, IntKind.min, IntKind.max, IntKind.signed, IntKind.bits] at h
  omega

theorem mk8_len (l : List UInt8) : (mk8 l).size = l.length := by rw [← str_len]; rfl

set_option linter.unusedSimpArgs false in
set_option maxRecDepth 100000 in
set_option maxHeartbeats 6400000 in
theorem signs_calls (v : Value) (l : List UInt8) (n : Int) (hn : -9223372036854775808 ≤ n ∧ n ≤ 9223372036854775807) (w : World) (hv : Bytes w v l) (ht : Tb w.heap.size w) : Calls Tryd.prog 4 #[v, .int .i64 n] w fun e w' => e = .returned (.bool true) ∧ Below w.heap.size w w' := by
  obtain ⟨a, c, rfl, hm, hc, ha, hcs⟩ := id hv
  have HT := Lib.hid ht
  have HCS := Lib.hid hcs
  obtain ⟨L, hL⟩ : ∃ L, L = l.length := ⟨_, rfl⟩
  rw [← hL] at hm hc ⊢
  have HLL := Lib.hid hL
  unfold maxLen at hm
  obtain ⟨V, hV⟩ : ∃ V : Nat, max n 0 = (V : Int) := ⟨(max n 0).toNat, by omega⟩
  have hV63 : V ≤ 9223372036854775807 := by omega
  have HINT := Lib.hid (fun w' => rint_any (V : Int) (by omega) w')
  rw [Lib.itoa_nonneg] at HINT
  have HDS := Lib.hid (dec_size V (by omega))
  have HDT : Hid (toksOf (mk8 (Lib.decDigits V)).data.toList = some [⟨2, Lib.decDigits V, 0⟩]) := Lib.hid (dec_toks V hV63)
  have HDN := Lib.hid (dec_num V hV63)
  have HDP := Lib.hid (dec_part V)
  clear ht hv hcs hL hn ha hc hV63
  go_enter Tryd.func4, Tryd.ntmps4
  go_wp2_with fail
  refine (awake_any w HT.out).mono ?_
  rintro e w1 ⟨rfl, hb1⟩
  have HB1 := Lib.hid hb1
  clear hb1
  go_wp2_with fail
  go_loopw [5, 6, 7, 22] (fun t _ _ i wr => ∃ (j : Nat) (S : List UInt8), j ≤ L ∧ i = .int .i64 j ∧ t = .string (mk8 S) ∧ S.length ≤ 2 * min j 12 ∧ Hid (∀ b ∈ S, signy b) ∧ Hid (Below w1.heap.size w1 wr)) (fun _ _ _ i _ => L - (intOf i).toNat)
  case atStart => exact ⟨0, [], by omega, rfl, rfl, by simp, Lib.hid (fun b hb => by simp at hb), Lib.hid (bre w1)⟩
  case round =>
    obtain ⟨j, S, hj, rfl, rfl, hSl, hS, hbl⟩ := hrel
    by_cases hlt : j < L
    · obtain ⟨g, o, rfl, x, hx, hcell⟩ : ∃ g o, a = some ⟨g, o, none⟩ ∧ ∃ x : UInt8, l[j]? = some x ∧ wr.cell? ⟨g, o + j, none⟩ = some (B8 x) := by
        rcases HCS.out with h0 | ⟨g, o, ha, hc⟩
        · rw [HLL.out, h0] at hlt; simp at hlt
        · have hjl : j < l.length := by rw [← HLL.out]; exact hlt
          obtain ⟨u, hu, rfl⟩ := hc j _ (List.getElem?_eq_getElem hjl)
          have hb := HB1.out.trans (hbl.out.mono HB1.out.size)
          exact ⟨g, o, ha, _, List.getElem?_eq_getElem hjl, (hb.cell (block_lt_of_cell hu)).trans hu⟩
      unfold B8 at hcell
      obtain ⟨k, hk⟩ : ∃ k, k = x.toNat := ⟨_, rfl⟩
      rw [← hk] at hcell
      obtain ⟨r, hr⟩ : ∃ r, r = k % 22 := ⟨_, rfl⟩
      have hri : (k : Int) % 22 = (r : Int) := by omega
      have hr22 : r < 22 := by omega
      have hkk : k < 256 := by rw [hk]; exact x.toNat_lt
      have hw1 : IntKind.i64.wrap (k : Int) = (k : Int) := by rw [IntKind.wrap_i64]; omega
      clear hx hk hr
      by_cases h12 : j < 12
      · have d1 : decide ((j : Int) < 12) = true := decide_eq_true (by omega)
        have d2 : decide (j < 12) = true := decide_eq_true h12
        have HTR : Hid (Tb wr.heap.size wr) := Lib.hid (by
          have hb := HB1.out.trans (hbl.out.mono HB1.out.size)
          exact (HT.out.below hb).mono' hb.size)
        go_wp2_with fail
        refine (rsigns_any wr).mono ?_
        rintro e y1 ⟨rfl, rfl⟩
        have hb3 := bal (bre wr) (.cells (signRows.map strV).toArray 9)
        have hr3 := heap_alloc_new wr (.cells (signRows.map strV).toArray 9)
        generalize wr.alloc (.cells (signRows.map strV).toArray 9) = y1 at *
        obtain ⟨n5, hn5⟩ : ∃ n, n = wr.heap.size := ⟨_, rfl⟩
        rw [← hn5] at hr3 ⊢
        have HY1 : Hid (Below w1.heap.size w1 y1) := Lib.hid (hbl.out.trans (hb3.mono hbl.out.size))
        have HR3 := Lib.hid hr3
        clear hb3 hr3 hn5 hbl hcell
        go_wp2_with fail
        refine (rsigns_any y1).mono ?_
        rintro e y2 ⟨rfl, rfl⟩
        have hb3 := bal (bre y1) (.cells (signRows.map strV).toArray 9)
        generalize y1.alloc (.cells (signRows.map strV).toArray 9) = y2 at *
        have HY2 : Hid (Below w1.heap.size w1 y2) := Lib.hid (HY1.out.trans (hb3.mono HY1.out.size))
        have hcl := strs_cell ((hb3.block n5 (Array.getElem?_eq_some_iff.1 HR3.out).1).trans HR3.out) r (by show r < 22; exact hr22)
        rw [strV_mk] at hcl
        have hS' : ∀ b ∈ S ++ signRows.getD r [], signy b := fun b hb => by
          rcases List.mem_append.1 hb with h | h
          · exact hS.out b h
          · exact row_signy r b h
        have hsh := row_short r
        have happ := mk8_app S (signRows.getD r [])
        have hz1 := mk8_len S
        have hz2 := mk8_len (signRows.getD r [])
        have hSS : (S ++ signRows.getD r []).length ≤ 2 * min (j + 1) 12 := by rw [List.length_append]; omega
        generalize S ++ signRows.getD r [] = S2 at *
        have HS2 := Lib.hid hS'
        have HSS := Lib.hid hSS
        have hz1' : (mk8 S).size ≤ 24 := by omega
        have hz2' : (mk8 (signRows.getD r [])).size ≤ 2 := by omega
        generalize mk8 (signRows.getD r []) = rr at *
        generalize mk8 S = ss at *
        have HAP := Lib.hid happ
        clear happ hb3 HY1 HR3 hS' hSS hsh hz1 hz2 hS hSl
        go_wp2_with fail
        go_roundw
        case rel => exact ⟨j + 1, S2, by omega, by go_num, by rw [HAP.out], HSS.out, HS2, HY2⟩
        case measure => simp [intOf]; try omega
      · have d1 : decide ((j : Int) < 12) = false := decide_eq_false (by omega)
        have d2 : decide (j < 12) = false := decide_eq_false h12
        go_wp2_with fail
        go_roundw
        case rel => exact ⟨j + 1, S, by omega, by go_num, rfl, by omega, hS, hbl⟩
        case measure => simp [intOf]; try omega
    · have ej : j = L := by omega
      subst ej
      have hsz : (mk8 S).size ≤ 24 := by rw [mk8_len]; omega
      have hST : (mk8 S).data.toList = S := rfl
      have HTR : Hid (Tb wr.heap.size wr) := Lib.hid (by
        have hb := HB1.out.trans (hbl.out.mono HB1.out.size)
        exact (HT.out.below hb).mono' hb.size)
      have HBR := Lib.hid (HB1.out.trans (hbl.out.mono HB1.out.size))
      have HLLS := hS
      clear hlt hj hSl hS hbl HCS HLL
      go_wp2_with fail
      refine (all_any (mk8 S) (by omega) wr HTR.out).mono ?_
      rintro e w3 ⟨hno, hyes, hb3⟩
      rw [hST] at hno hyes
      cases hq : toksOf S with
      | none =>
        obtain rfl := hno hq
        have HB3 := Lib.hid (btr HBR.out hb3)
        have HQ := Lib.hid hq
        clear hno hyes hb3 hq HBR HTR
        go_wp2_with fail
        refine (rall_any (mk8 S) (by omega) w3).mono ?_
        rintro e wz ⟨hno, -, hb4⟩
        obtain rfl := hno (by rw [hST]; exact HQ.out)
        have HBZ0 := btr HB3.out hb4
        clear hno hb4 HB3 HQ hsz hST HLLS
        go_wp2_with fail
        go_loopw [12, 14, 62] (fun t _ i wr => t = .string ByteArray.empty ∧ i = .int .i64 0 ∧ wr = wz) (fun _ _ _ _ => 0)
        case atStart => exact ⟨rfl, rfl, rfl⟩
        case round =>
          obtain ⟨rfl, rfl, hwr⟩ := hrel
          have hwr' := hwr.symm
          subst hwr'
          clear hwr
          have HBZ := Lib.hid (HBZ0)
          have HTZ : Hid (Tb wz.heap.size wz) := Lib.hid ((HT.out.below HBZ.out).mono' HBZ.out.size)
          clear HBZ0
          go_wp2_with fail
          refine (HINT.out wz).mono ?_
          rintro e wy ⟨rfl, hw⟩
          have hw' := hw.symm
          subst hw'
          clear hw
          have hsd := HDS.out
          go_wp2_with fail
          refine (all_any (mk8 (Lib.decDigits V)) (by omega) wz HTZ.out).mono ?_
          rintro e x1 ⟨-, hyes, hb1⟩
          obtain ⟨v1, rfl, hown1⟩ := hyes _ HDT.out
          obtain ⟨g1, c1, rfl, hg1, hcs1⟩ := own_open hown1 (by simp)
          have c10 : x1.cell? ⟨g1, 0, none⟩ = some (.int .u8 2) := (hcs1 0 _ rfl).1
          have c11 : x1.cell? ⟨g1, 1, none⟩ = some (.string (mk8 (Lib.decDigits V))) := (hcs1 0 _ rfl).2.1
          have c12 : x1.cell? ⟨g1, 2, none⟩ = some (.int .i64 0) := (hcs1 0 _ rfl).2.2
          have HX1 := Lib.hid (btr HBZ.out hb1)
          have hl1 : ([(⟨2, Lib.decDigits V, 0⟩ : Tok)]).length = 1 := rfl
          rw [hl1]
          have HV1 := Lib.hid (value_num (Lib.decDigits V) 0 HDN.out HDP.out (by have := HDS.out; rw [← str_len] at this; show (Lib.decDigits V).length ≤ _; have h2 : (mk8 (Lib.decDigits V)).data.toList.length = (Lib.decDigits V).length := rfl; omega) x1)
          rw [show valOf (Lib.decDigits V) = V from valD_dec V] at HV1
          clear hyes hown1 hb1 hg1 hcs1 hsd hl1 HBZ HTZ HDT HDN HDP HDS
          generalize mk8 (Lib.decDigits V) = dg at *
          go_wp2_with fail
          refine HV1.out.mono ?_
          rintro e x2 ⟨rfl, hb2⟩
          have HX2 := Lib.hid (btr HX1.out hb2)
          clear hb2 HV1 HX1 c10 c11 c12
          go_wp2_with fail
          refine (value_no 1 ⟨#[55]⟩ 0 (by decide) x2).mono ?_
          rintro e x3 ⟨rfl, hb3⟩
          have HX3 := Lib.hid (btr HX2.out hb3)
          clear hb3 HX2
          go_wp2_with fail
          go_ret
          exact ⟨rfl, HX3.out⟩
      | some ts =>
        obtain ⟨v3, rfl, hown⟩ := hyes ts hq
        obtain ⟨a3, c3, rfl, -, -, -, -⟩ := id hown.at
        have HB3 := Lib.hid (btr HBR.out hb3)
        have HQ := Lib.hid hq
        have HOWN := Lib.hid hown
        clear hno hyes hb3 hq hown HBR HTR
        go_wp2_with fail
        refine (rall_any (mk8 S) (by omega) w3).mono ?_
        rintro e w4 ⟨-, hyes, hb4⟩
        obtain ⟨v4, rfl, hown4⟩ := hyes ts HQ.out
        obtain ⟨a4, c4, rfl, -, -, -, -⟩ := id hown4.at
        have HB4 := Lib.hid (btr HB3.out hb4)
        obtain ⟨hk4, hfl⟩ := signs_toks _ _ _ _ HLLS.out (by have := HQ.out; unfold toksOf toksFrom at this; rw [List.drop_zero] at this; exact this)
        have HC : Hid (ts = [] ∨ ∃ g, a3 = some ⟨g, 0, none⟩ ∧ ∀ w', Below w4.heap.size w4 w' → ∀ (j : Nat) t, ts[j]? = some t → w'.cell? ⟨g, j * 3, none⟩ = some (.int .u8 4) ∧ w'.cell? ⟨g, j * 3 + 1, none⟩ = some (.string (mk8 t.text)) ∧ w'.cell? ⟨g, j * 3 + 2, none⟩ = some (.int .i64 t.pos)) := Lib.hid (by
          by_cases hne : ts = []
          · exact .inl hne
          · obtain ⟨g, c, e3, hg, hcs⟩ := own_open HOWN.out hne
            cases e3
            refine .inr ⟨g, rfl, fun w' hb j t hj => ?_⟩
            obtain ⟨h0, h1, h2⟩ := hcs j t hj
            rw [hk4 t (List.mem_of_getElem? hj)] at h0
            have hb' := btr hb4 hb
            exact ⟨(hb'.cell (p := ⟨g, j * 3, none⟩) hg).trans h0, (hb'.cell (p := ⟨g, j * 3 + 1, none⟩) hg).trans h1, (hb'.cell (p := ⟨g, j * 3 + 2, none⟩) hg).trans h2⟩)
        obtain ⟨N, hN⟩ : ∃ N, N = ts.length := ⟨_, rfl⟩
        rw [← hN]
        have HN := Lib.hid hN
        have hn1 : N ≤ 24 := by
          obtain ⟨h1, h2⟩ := toks_bound_ _ _ _ _ (show toks (S.length + 1) 0 S = some ts by have := HQ.out; unfold toksOf toksFrom at this; rw [List.drop_zero] at this; exact this)
          rw [mk8_len] at hsz
          omega
        have HFL := Lib.hid hfl
        have HLS : Hid (S.length ≤ 24) := Lib.hid (by rw [← mk8_len]; exact hsz)
        clear hyes hb4 hown4 hk4 hfl hN HOWN HQ HLLS HB3 hsz hST
        go_wp2_with fail
        go_loopw [12, 14, 62] (fun t _ i wr => ∃ j : Nat, j ≤ N ∧ i = .int .i64 j ∧ t = .string (mk8 ((ts.take j).flatMap Tok.text)) ∧ Hid (Below w4.heap.size w4 wr)) (fun _ _ i _ => N - (intOf i).toNat)
        case atStart => exact ⟨0, by omega, rfl, rfl, Lib.hid (bre w4)⟩
        case round =>
          obtain ⟨j, hj, rfl, rfl, hbl⟩ := hrel
          by_cases hlt : j < N
          · obtain h0 | ⟨g, rfl, hcs⟩ := HC.out
            · have := HN.out; rw [h0] at this; simp at this; omega
            have hjl : j < ts.length := by rw [← HN.out]; exact hlt
            obtain ⟨t, htj⟩ : ∃ t, ts[j]? = some t := ⟨_, List.getElem?_eq_getElem hjl⟩
            obtain ⟨c0, c1, c2⟩ := hcs wr hbl.out j t htj
            have htk : (ts.take (j + 1)).flatMap Tok.text = (ts.take j).flatMap Tok.text ++ t.text := by
              rw [List.take_succ_eq_append_getElem hjl, List.flatMap_append]
              rw [List.getElem?_eq_getElem hjl] at htj
              cases htj
              simp
            have hle : ((ts.take (j + 1)).flatMap Tok.text).length ≤ 24 := by
              have h1 : ts.flatMap Tok.text = (ts.take (j + 1)).flatMap Tok.text ++ (ts.drop (j + 1)).flatMap Tok.text := by rw [← List.flatMap_append, List.take_append_drop]
              have h2 := congrArg List.length h1
              rw [List.length_append, HFL.out] at h2
              have := HLS.out
              omega
            have hz : ((ts.take j).flatMap Tok.text).length + t.text.length ≤ 24 := by rw [htk, List.length_append] at hle; exact hle
            have happ := mk8_app ((ts.take j).flatMap Tok.text) t.text
            rw [← htk] at happ
            have hz1 := mk8_len ((ts.take j).flatMap Tok.text)
            have hz2 := mk8_len t.text
            obtain ⟨k, T, p⟩ := t
            simp only at c0 c1 c2 happ hz hz2
            have HAPP := Lib.hid happ
            generalize mk8 ((ts.take j).flatMap Tok.text) = ss at *
            generalize mk8 T = TT at *
            have hz1' : ss.size ≤ 24 := by omega
            have hz2' : TT.size ≤ 24 := by omega
            clear hcs hjl htj htk hle hz happ hz1 hz2
            go_upto_region 18 with fail
            have hb5 := bal (bre wr) (.cells #[.int .u8 4, .string TT, .int .i64 p] 32)
            have hr5 := heap_alloc_new wr (.cells #[.int .u8 4, .string TT, .int .i64 p] 32)
            generalize wr.alloc (.cells #[.int .u8 4, .string TT, .int .i64 p] 32) = w5 at *
            obtain ⟨n8, hn8⟩ : ∃ n, n = wr.heap.size := ⟨_, rfl⟩
            rw [← hn8] at hr5 ⊢
            have HB5 : Hid (Below w4.heap.size w4 w5) := Lib.hid (hbl.out.trans (hb5.mono hbl.out.size))
            have e0 := cell_of_row w5 n8 0 _ _ _ hr5
            have e1 := cell_of_row w5 n8 1 _ _ _ hr5
            clear hb5 hr5 hn8 c0 c1 c2 hbl
            go_wp2_with fail
            go_roundw
            case rel => exact ⟨j + 1, by omega, by go_num, by rw [← HAPP.out], HB5⟩
            case measure => simp [intOf]; try omega
          · have ej : j = N := by omega
            subst ej
            have hall : (ts.take j).flatMap Tok.text = S := by rw [HN.out, List.take_length]; exact HFL.out
            rw [hall]
            have HBZ0 := btr HB4.out hbl.out
            have hww : ∃ wz, wz = wr := ⟨_, rfl⟩
            obtain ⟨wz, hwz⟩ := hww
            rw [← hwz] at HBZ0 ⊢
            have heq : ((mk8 S).toList == (mk8 S).toList) = true := by simp
            clear hlt hj hall hbl hwz HC HN HFL HLS HB4 hn1
            generalize mk8 S = ss at *
            have HBZ := Lib.hid (HBZ0)
            have HTZ : Hid (Tb wz.heap.size wz) := Lib.hid ((HT.out.below HBZ.out).mono' HBZ.out.size)
            clear HBZ0
            go_wp2_with fail
            refine (HINT.out wz).mono ?_
            rintro e wy ⟨rfl, hw⟩
            have hw' := hw.symm
            subst hw'
            clear hw
            have hsd := HDS.out
            go_wp2_with fail
            refine (all_any (mk8 (Lib.decDigits V)) (by omega) wz HTZ.out).mono ?_
            rintro e x1 ⟨-, hyes, hb1⟩
            obtain ⟨v1, rfl, hown1⟩ := hyes _ HDT.out
            obtain ⟨g1, c1, rfl, hg1, hcs1⟩ := own_open hown1 (by simp)
            have c10 : x1.cell? ⟨g1, 0, none⟩ = some (.int .u8 2) := (hcs1 0 _ rfl).1
            have c11 : x1.cell? ⟨g1, 1, none⟩ = some (.string (mk8 (Lib.decDigits V))) := (hcs1 0 _ rfl).2.1
            have c12 : x1.cell? ⟨g1, 2, none⟩ = some (.int .i64 0) := (hcs1 0 _ rfl).2.2
            have HX1 := Lib.hid (btr HBZ.out hb1)
            have hl1 : ([(⟨2, Lib.decDigits V, 0⟩ : Tok)]).length = 1 := rfl
            rw [hl1]
            have HV1 := Lib.hid (value_num (Lib.decDigits V) 0 HDN.out HDP.out (by have := HDS.out; rw [← str_len] at this; show (Lib.decDigits V).length ≤ _; have h2 : (mk8 (Lib.decDigits V)).data.toList.length = (Lib.decDigits V).length := rfl; omega) x1)
            rw [show valOf (Lib.decDigits V) = V from valD_dec V] at HV1
            clear hyes hown1 hb1 hg1 hcs1 hsd hl1 HBZ HTZ HDT HDN HDP HDS
            generalize mk8 (Lib.decDigits V) = dg at *
            go_wp2_with fail
            refine HV1.out.mono ?_
            rintro e x2 ⟨rfl, hb2⟩
            have HX2 := Lib.hid (btr HX1.out hb2)
            clear hb2 HV1 HX1 c10 c11 c12
            go_wp2_with fail
            refine (value_no 1 ⟨#[55]⟩ 0 (by decide) x2).mono ?_
            rintro e x3 ⟨rfl, hb3⟩
            have HX3 := Lib.hid (btr HX2.out hb3)
            clear hb3 HX2
            go_wp2_with fail
            go_ret
            exact ⟨rfl, HX3.out⟩
end Go.Proofs.YtffghdehimhpiaaDoor
