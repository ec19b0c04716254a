/- Walk: tokens joined with blanks. -/
import Derived.Test.YtffghdehimhpiaaDoorTkLawA
import Derived.Test.YtffghdehimhpiaaDoorTkJoinP
import Derived.Test.YtffghdehimhpiaaDoorStrs
namespace Go.Proofs.YtffghdehimhpiaaDoor
open Go.RowKit

theorem mk8_data (l : List UInt8) : (mk8 l).data.toList = l := rfl
theorem map_mk8' (l : List (List UInt8)) : (l.map mk8).map (fun s => s.data.toList) = l := by
  rw [List.map_map]
  conv => rhs; rw [← List.map_id l]
  exact List.map_congr_left fun l _ => rfl

theorem join_none (a : Option Addr) (c : Nat) (sep : ByteArray) (w : World) : Calls Tryd.prog 34 #[.slice a 0 c, .string sep] w fun e w' => e = .returned (.string ⟨#[]⟩) ∧ w' = w := Any.strings_Join_none Tryd.lays156 extra a c sep w

set_option linter.unusedSimpArgs false in
set_option maxRecDepth 100000 in
set_option maxHeartbeats 3200000 in
theorem tjoin_any (a : Option Addr) (c n : Nat) (ts : List Tok) (w : World) (hn : ts.length = n) (hn1 : n ≤ 1000000) (ha : n = 0 ∨ ∃ g, a = some ⟨g, 0, none⟩ ∧ g < w.heap.size ∧
      ∀ (j : Nat) t, ts[j]? = some t → w.cell? ⟨g, j * 3, none⟩ = some (.int .u8 t.kind) ∧ w.cell? ⟨g, j * 3 + 1, none⟩ = some (.string (mk8 t.text)) ∧ w.cell? ⟨g, j * 3 + 2, none⟩ = some (.int .i64 t.pos))
    (hlen : (Lib.join (ts.map Tok.text) [32]).length ≤ 140737488355328) : Calls Tryd.prog 24 #[.slice a n c] w fun e w' => e = .returned (.string (mk8 (Lib.join (ts.map Tok.text) [32]))) ∧ Below w.heap.size w w' := by
  have HN := Lib.hid hn
  have HA := Lib.hid ha
  have HL := Lib.hid hlen
  clear hn ha hlen
  obtain ⟨n0, hn0⟩ : ∃ n0, n0 = n := ⟨_, rfl⟩
  go_enter Tryd.func24, Tryd.ntmps24
  go_wp2_with fail
  clear hn0
  go_loopw [3, 8] (fun v i wr => ∃ j : Nat, j ≤ n ∧ i = .int .i64 j ∧ Hid (OwnStrs w.heap.size wr v ((ts.take j).map Tok.text)) ∧ Hid (Below w.heap.size w wr)) (fun _ i _ => n - (intOf i).toNat)
  case atStart => exact ⟨0, by omega, rfl, Lib.hid (World.ownsRow_nil _ _ _ _), Lib.hid (bre w)⟩
  case round =>
    obtain ⟨j, hj, rfl, hown, hbl⟩ := hrel
    by_cases hlt : j < n
    · obtain h0 | ⟨g, rfl, hg, hcs⟩ := HA.out
      · omega
      have hjl : j < ts.length := by rw [HN.out]; exact hlt
      obtain ⟨t, htj⟩ : ∃ t, ts[j]? = some t := ⟨_, List.getElem?_eq_getElem hjl⟩
      obtain ⟨h0, h1, h2⟩ := hcs j t htj
      have c0 := (hbl.out.cell (p := ⟨g, j * 3, none⟩) hg).trans h0
      have c1 := (hbl.out.cell (p := ⟨g, j * 3 + 1, none⟩) hg).trans h1
      have c2 := (hbl.out.cell (p := ⟨g, j * 3 + 2, none⟩) hg).trans h2
      have htk : (ts.take (j + 1)).map Tok.text = (ts.take j).map Tok.text ++ [t.text] := by
        rw [List.take_succ_eq_append_getElem hjl, List.map_append]
        rw [List.getElem?_eq_getElem hjl] at htj
        cases htj
        rfl
      have HTK := Lib.hid htk
      have hln : ((ts.take j).map Tok.text).length = j := by rw [List.length_map, List.length_take]; omega
      obtain ⟨k, T, p⟩ := t
      simp only at c0 c1 c2
      obtain ⟨ls, hls⟩ : ∃ ls, ls = (ts.take j).map Tok.text := ⟨_, rfl⟩
      rw [← hls] at hln hown
      have HLS := Lib.hid hls
      clear hjl htj hcs hg h0 h1 h2 htk hls
      go_upto_region 5 with fail
      have hb5 := bal (bre wr) (.cells #[.int .u8 k, .string (mk8 T), .int .i64 p] 32)
      have hr5 := heap_alloc_new wr (.cells #[.int .u8 k, .string (mk8 T), .int .i64 p] 32)
      have ho5 := World.ownsRow.alloc hown.out (.cells #[.int .u8 k, .string (mk8 T), .int .i64 p] 32)
      generalize wr.alloc (.cells #[.int .u8 k, .string (mk8 T), .int .i64 p] 32) = w5 at *
      obtain ⟨n8, hn8⟩ : ∃ n, n = wr.heap.size := ⟨_, rfl⟩
      rw [← hn8] at hr5 ⊢
      have d1 := cell_of_row w5 n8 1 _ _ _ hr5
      have HB5 : Hid (Below w.heap.size w w5) := Lib.hid (hbl.out.trans (hb5.mono hbl.out.size))
      have HO5 := Lib.hid ho5
      clear hb5 hr5 ho5 hn8 hbl hown c0 c1 c2
      go_wp2_with (at_builtin; refine wpList_app rfl _ _ 38 9 1 16 rowStr rfl w.heap.size _ ls.length (ls.map strV) rfl (World.ownsRow.alloc HO5.out _) _ 1 1 [.string (mk8 T)] rfl rfl (lies_one _ _ _) (Nat.le_refl _) (fun h => by cases h) (by simp [Value.oneCell']) (by unfold maxLen; omega) (by omega) (by exact (HB5.out.alloc HB5.out.size _).size) ?_; intro v' w6 h6 hg6 hb6)
      have hw6 : OwnStrs w.heap.size w6 v' (ls ++ [T]) := by unfold OwnStrs; rw [List.length_append, List.map_append]; exact h6
      rw [HLS.out, ← HTK.out] at hw6
      have HW6 := Lib.hid hw6
      have HB6 : Hid (Below w.heap.size w w6) := Lib.hid ((HB5.out.alloc HB5.out.size _).trans hb6)
      clear h6 hg6 hb6 hw6 HTK HLS hln HO5 HB5 d1
      go_wp2_with fail
      go_roundw
      case rel => exact ⟨j + 1, by omega, by go_num, HW6, HB6⟩
      case measure => simp [intOf]; try omega
    · have ej : j = n := by omega
      subst ej
      have hta : ts.take j = ts := List.take_of_length_le (by rw [HN.out]; omega)
      rw [hta] at hown
      clear hlt hj hta
      obtain ⟨ls, hls⟩ : ∃ ls, ls = ts.map Tok.text := ⟨_, rfl⟩
      have HLS := Lib.hid hls
      rw [← hls] at hown
      have hll : ls.length = j := by rw [hls, List.length_map]; exact HN.out
      have hlen := HL.out
      rw [← hls] at hlen
      by_cases hne : ls = []
      · obtain ⟨a', c', rfl, -⟩ := ownsRow_lies hown.out
        have h0 : ls.length = 0 := by rw [hne]; rfl
        rw [h0]
        have HE : Hid (ts.map Tok.text = []) := Lib.hid (by rw [← hls]; exact hne)
        clear h0 hls hll hne hlen hown HN HA HL HLS
        go_wp2_with fail
        refine (join_none a' c' _ _).mono ?_
        rintro e w7 ⟨rfl, hw⟩
        have hw' := hw.symm
        subst hw'
        clear hw
        go_wp2_with fail
        go_ret
        exact ⟨by rw [HE.out]; rfl, hbl.out⟩
      · obtain ⟨bk, c', rfl, hc', hbk, hcs⟩ := OwnStrs.open hown.out hne
        have hj := join_any bk c' ls.length (ls.map mk8) ⟨#[32]⟩ wr (List.length_map _) hcs hbk (by rw [List.length_map]; omega) (by rw [List.length_map]; exact hc') (by rw [map_mk8']; exact hlen)
        rw [map_mk8'] at hj
        have HJ := Lib.hid hj
        clear hls hll hne hlen HN HA HL hc' hbk hcs hj
        go_wp2_with fail
        refine HJ.out.mono ?_
        rintro e w7 ⟨rfl, hb7⟩
        have HB7 := Lib.hid (btr hbl.out hb7)
        clear hb7
        rw [strV_mk]
        go_wp2_with fail
        go_ret
        exact ⟨by rw [← HLS.out]; rfl, HB7.out⟩
end Go.Proofs.YtffghdehimhpiaaDoor
