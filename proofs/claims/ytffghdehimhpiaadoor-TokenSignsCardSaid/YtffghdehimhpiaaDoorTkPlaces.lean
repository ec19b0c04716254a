/- Walk: the law of the places of tokens. -/
import Derived.Test.YtffghdehimhpiaaDoorTkLawA
import Derived.Test.YtffghdehimhpiaaDoorTkPlaceP
import Derived.BigQuiet
namespace Go.Proofs.YtffghdehimhpiaaDoor
open Go.RowKit

theorem Tb.mono' {B B' : Nat} {w : World} (h : Tb B w) (hb : B ≤ B') : Tb B' w := fun w' k => h w' (k.mono hb)

set_option linter.unusedSimpArgs false in
set_option maxRecDepth 100000 in
set_option maxHeartbeats 6400000 in
theorem places_calls (s : ByteArray) (hs : s.size ≤ 9223372036854775807) (w : World) (ht : Tb w.heap.size w) : Calls Tryd.prog 5 #[.string s] w fun e w' => e = .returned (.bool true) ∧ Below w.heap.size w w' := by
  have HT := Lib.hid ht
  have HTX := Lib.hid (fun w' => text_any s 600 w' hs (by omega))
  clear ht hs
  go_enter Tryd.func5, Tryd.ntmps5
  go_wp2_with fail
  refine (awake_any w HT.out).mono ?_
  rintro e w1 ⟨rfl, hb1⟩
  have HB1 := Lib.hid hb1
  clear hb1
  go_wp2_with fail
  refine (HTX.out w1).mono ?_
  rintro e w2 ⟨rfl, hw⟩
  have hw' := hw.symm
  subst hw'
  clear hw HTX
  have hsz := first_size s 600
  generalize firstOf s 600 = s8 at *
  go_wp2_with fail
  refine (all_any s8 (by omega) _ ((HT.out.below HB1.out).mono' HB1.out.size)).mono ?_
  rintro e w3 ⟨hno, hyes, hb3⟩
  cases hq : toksOf s8.data.toList with
  | none =>
    obtain rfl := hno hq
    have HB3 := Lib.hid (btr HB1.out hb3)
    clear hno hyes hb3 hq HB1
    go_wp2_with fail
    go_ret
    exact ⟨rfl, HB3.out⟩
  | some ts =>
    obtain ⟨v, rfl, hown⟩ := hyes ts hq
    obtain ⟨a3, c3, rfl, -, -, -, -⟩ := id hown.at
    have HB3 := Lib.hid (btr HB1.out hb3)
    have HQ := Lib.hid hq
    have HOWN := Lib.hid hown
    clear hno hyes hb3 hq hown HB1
    by_cases hne : ts = []
    · have hl : ts.length = 0 := by rw [hne]; rfl
      rw [hl]
      clear hne hl HOWN HQ hsz
      go_wp2_with fail
      go_loopw [5, 26] (fun _ i wr => i = .int .i64 0 ∧ wr = w3) (fun _ _ _ => 0)
      case atStart => exact ⟨rfl, rfl⟩
      case round =>
        obtain ⟨rfl, rfl⟩ := hrel
        go_wp2_with fail
        go_ret
        exact ⟨rfl, HB3.out⟩
    obtain ⟨g, c, e3, hg, hcs⟩ := own_open HOWN.out hne
    cases e3
    have HC : Hid (∀ w', Below w3.heap.size w3 w' → ∀ (j : Nat) t, ts[j]? = some t → w'.cell? ⟨g, j * 3, none⟩ = some (.int .u8 t.kind) ∧ w'.cell? ⟨g, j * 3 + 1, none⟩ = some (.string (mk8 t.text)) ∧ w'.cell? ⟨g, j * 3 + 2, none⟩ = some (.int .i64 t.pos)) := Lib.hid fun w' hb j t hj => by
      obtain ⟨h0, h1, h2⟩ := hcs j t hj
      exact ⟨(hb.cell (p := ⟨g, j * 3, none⟩) hg).trans h0, (hb.cell (p := ⟨g, j * 3 + 1, none⟩) hg).trans h1, (hb.cell (p := ⟨g, j * 3 + 2, none⟩) hg).trans h2⟩
    obtain ⟨n, hn⟩ : ∃ n, n = ts.length := ⟨_, rfl⟩
    rw [← hn]
    have HN := Lib.hid hn
    have hs8 : s8.data.toList.length = s8.size := str_len s8
    have hn1 : n ≤ 1000000 := by
      obtain ⟨h1, h2⟩ := toks_bound_ _ _ _ _ HQ.out
      have hl : (s8.data.toList.drop 0).length ≤ 600 := by rw [List.drop_zero, hs8]; exact hsz
      omega
    have HS8 := Lib.hid hs8
    have HT3 : Hid (Tb w3.heap.size w3) := Lib.hid ((HT.out.below HB3.out).mono' HB3.out.size)
    have HST : Hid (toksFrom s8.data.toList 0 = some (ts.drop 0)) := Lib.hid HQ.out
    clear hg hcs hne hn HOWN HQ hs8 HT
    go_wp2_with fail
    go_loopw [5, 26] (fun at_ si wr => ∃ j q : Nat, j ≤ n ∧ q ≤ s8.size ∧ si = .int .i64 j ∧ at_ = .int .i64 q ∧ Hid (toksFrom s8.data.toList q = some (ts.drop j)) ∧ Hid (Below w3.heap.size w3 wr)) (fun _ si _ => n - (intOf si).toNat)
    case atStart => exact ⟨0, 0, by omega, by omega, rfl, rfl, HST, Lib.hid (bre w3)⟩
    case round =>
      obtain ⟨j, q, hj, hq, rfl, rfl, hst, hbl⟩ := hrel
      clear HST
      by_cases hlt : j < n
      rotate_left
      · have ej : j = n := by omega
        subst ej
        clear hlt hj hst
        go_wp2_with fail
        go_ret
        exact ⟨rfl, btr HB3.out hbl.out⟩
      have hjl : j < ts.length := by rw [← HN.out]; exact hlt
      obtain ⟨t, htj⟩ : ∃ t, ts[j]? = some t := ⟨_, List.getElem?_eq_getElem hjl⟩
      have hdr : ts.drop j = t :: ts.drop (j + 1) := by
        rw [List.drop_eq_getElem_cons hjl]
        rw [List.getElem?_eq_getElem hjl] at htj
        cases htj
        rfl
      obtain ⟨p1, p2, p3, p4, p5, p6⟩ := from_head (by rw [← hdr]; exact hst.out) (by rw [HS8.out]; exact hq)
      rw [HS8.out] at p2
      obtain ⟨c0, c1, c2⟩ := HC.out wr hbl.out j t htj
      obtain ⟨k, T, p⟩ := t
      simp only at c0 c1 c2 p1 p2 p3 p4 p5 p6
      obtain ⟨m, hm⟩ : ∃ m, m = T.length := ⟨_, rfl⟩
      rw [← hm] at p2 p3 p4 p5
      have hms : (mk8 T).size = m := by rw [← str_len, hm]; rfl
      have hex : s8.extract p (p + m) = mk8 T := ext_mk s8 p (p + m) T (by rw [show p + m - p = m by omega]; exact p3.symm)
      obtain ⟨z, hz⟩ : ∃ z, z = s8.extract q p := ⟨_, rfl⟩
      have hzl : z.data.toList = (s8.data.toList.drop q).take (p - q) := by rw [hz]; exact mid_bytes s8 q p
      rw [← hzl] at p6
      have hzs : z.size ≤ 200000 := by rw [hz, ByteArray.size_extract]; omega
      have HZ := Lib.hid p6
      have HZE := Lib.hid hz.symm
      have HEX := Lib.hid hex
      have HMS := Lib.hid hms
      have HP5 := Lib.hid p5
      clear hjl htj hdr hst p3 p5 p6 hm hz hzl hex hms HC HN
      generalize mk8 T = TT at *
      go_upto_region 11 with fail
      have hb5 := bal (bre wr) (.cells #[.int .u8 k, .string TT, .int .i64 p] 32)
      have hr5 := heap_alloc_new wr (.cells #[.int .u8 k, .string TT, .int .i64 p] 32)
      generalize wr.alloc (.cells #[.int .u8 k, .string TT, .int .i64 p] 32) = w5 at *
      obtain ⟨n8, hn8⟩ : ∃ n, n = wr.heap.size := ⟨_, rfl⟩
      rw [← hn8] at hr5 ⊢
      have HB5 : Hid (Below w3.heap.size w3 w5) := Lib.hid (hbl.out.trans (hb5.mono hbl.out.size))
      have HR5 := Lib.hid hr5
      have e1 := cell_of_row w5 n8 1 _ _ _ hr5
      have e2 := cell_of_row w5 n8 2 _ _ _ hr5
      clear hb5 hr5 hn8 c0 c1 c2 hbl
      have d1 : decide (p < q) = false := decide_eq_false (by omega)
      have hw1 : IntKind.i64.wrap ((p : Int) + (m : Int)) = (p : Int) + (m : Int) := by rw [IntKind.wrap_i64]; omega
      have d2 : decide ((s8.size : Int) < (p : Int) + m) = false := decide_eq_false (by omega)
      have d3 : decide ((m : Int) = 0) = false := decide_eq_false (by omega)
      have d3n : ((m : Int) == 0) = false := d3
      have d4 : decide ((p : Int) ≤ (p : Int) + m) = true := decide_eq_true (by omega)
      have d5 : decide ((p : Int) + m ≤ (s8.size : Int)) = true := decide_eq_true (by omega)
      have d6 := HEX.out
      have d7 := HMS.out
      go_quiet (fail)
      have hb6 := bdn (bre w5) nq
      generalize w5.drewN nq = w6 at *
      have HB6 := Lib.hid (HB5.out.trans (hb6.mono HB5.out.size))
      have HR6 := Lib.hid ((hb6.block n8 (Array.getElem?_eq_some_iff.1 HR5.out).1).trans HR5.out)
      have d7 := HZE.out
      have d8 : decide (q ≤ p) = true := decide_eq_true p1
      have d9 : decide (p ≤ s8.size) = true := decide_eq_true (by omega)
      clear e1 e2 hb6 HB5 HR5 d1 d2 d3 d3n d4 d5 d6
      have e1 := cell_of_row w6 n8 1 _ _ _ HR6.out
      have e2 := cell_of_row w6 n8 2 _ _ _ HR6.out
      have HTW : Hid (Tb w6.heap.size w6) := Lib.hid ((HT3.out.below HB6.out).mono' HB6.out.size)
      go_wp2_with fail
      refine (all_any z hzs w6 HTW.out).mono ?_
      rintro e w7 ⟨-, hyes, hb7⟩
      obtain ⟨v7, rfl, hown7⟩ := hyes [] HZ.out
      obtain ⟨a7, c7, rfl, -⟩ := id hown7.at
      have HB7 := Lib.hid (HB6.out.trans (hb7.mono HB6.out.size))
      have HR7 := Lib.hid ((hb7.block n8 (Array.getElem?_eq_some_iff.1 HR6.out).1).trans HR6.out)
      have h0 : (([] : List Tok).length) = 0 := rfl
      rw [h0]
      have e1' := cell_of_row w7 n8 1 _ _ _ HR7.out
      have e2' := cell_of_row w7 n8 2 _ _ _ HR7.out
      clear hyes hb7 hown7 HTW HB6 HR6 h0 e1 e2 d7 d8 d9 HZ HZE hzs
      have d7 := HMS.out
      go_wp2_with fail
      go_roundw
      case rel => exact ⟨j + 1, p + m, by omega, by omega, by go_num, by go_num, HP5, HB7⟩
      case measure => simp [intOf]; try omega
end Go.Proofs.YtffghdehimhpiaaDoor
