/- Walk: the law's rows: what is in an arena, rising. -/
import Derived.Test.YtnbncjebmlicgaaSrtIds
import Derived.Test.YtnbncjebmlicgaaArLay
namespace Go.Proofs.Ytnbncjebmlicgaa
open Go.RowKit

theorem take_keys {l : List (Nat × Nd)} {k : Nat} {p : Nat × Nd} (hp : l[k]? = some p) : l.take (k + 1) = l.take k ++ [p] := by rw [List.take_add_one, hp]; rfl

set_option linter.unusedSimpArgs false in
set_option maxRecDepth 20000 in
set_option maxHeartbeats 3200000 in
theorem arrows_any (g b : Nat) (l : List (Nat × Nd)) (w : World) (h : ArAt w g b l) :
    Calls Try.prog 18 #[.pointer (some ⟨g, 0, none⟩)] w fun e w' => ∃ v, e = .returned v ∧ RowsX w.heap.size w' v l ∧ Below w.heap.size w w' := by
  have H := Lib.hid h
  have HASC := Lib.hid h.asc
  have HFEW := Lib.hid h.few
  clear h
  go_enter Try.func18, Try.ntmps18
  go_wp2_with fail
  refine (arids_any g b l w H.out).mono ?_
  rintro e w1 ⟨v1, rfl, ho1, hb1⟩
  obtain ⟨ia, ic, rfl⟩ := ho1.slice
  obtain ⟨L, hL⟩ : ∃ L, L = (l.map (·.1)).length := ⟨_, rfl⟩
  rw [← hL] at ho1 ⊢
  have hLl : L = l.length := by rw [hL, List.length_map]
  have hLm : L ≤ 20000 := by rw [hLl]; exact HFEW.out
  have HI := Lib.hid ho1
  have HB1 := Lib.hid hb1
  have HL := Lib.hid hLl
  have HA1 := Lib.hid (H.out.below hb1)
  have HSZ := Lib.hid hb1.size
  clear hL hLl ho1 hb1 H
  go_wp2_with fail
  go_loopw [3, 5, 6, 7, 11] (fun v _ _ _ i wr => ∃ k : Nat, k ≤ L ∧ i = .int .i64 k ∧ Hid (RowsX w1.heap.size wr v (l.take k)) ∧ Hid (Below w1.heap.size w1 wr)) (fun _ _ _ _ i _ => L - (intOf i).toNat)
  case atStart => exact ⟨0, by omega, rfl, Lib.hid (RowsX.nil _ _), Lib.hid (bre w1)⟩
  case round =>
    obtain ⟨k, hk, rfl, hx, hbl⟩ := hrel
    obtain ⟨va, vc, rfl⟩ := hx.out.slice
    obtain ⟨OL, hOL⟩ : ∃ q, q = (l.take k).length := ⟨_, rfl⟩
    have hOLb : OL ≤ 20000 := by
      rw [hOL, List.length_take]
      omega
    have HOL := Lib.hid hOL
    rw [← hOL] at hx ⊢
    by_cases hlt : k < L
    · have d1 : decide ((k : Int) < (L : Int)) = true := decide_eq_true (by omega)
      have d1n : decide (k < L) = true := decide_eq_true hlt
      have hkl : k < l.length := by rw [← HL.out]; exact hlt
      obtain ⟨p, hp⟩ : ∃ p, l[k]? = some p := ⟨_, List.getElem?_eq_getElem hkl⟩
      have HTK := Lib.hid (take_keys hp)
      have hgn : getA l p.1 = some p.2 := getA_of_mem HASC.out (List.mem_of_getElem? hp)
      have h64 : p.1 < 18446744073709551616 := HASC.out.2 p (List.mem_of_getElem? hp)
      have hiw : OwnIds w.heap.size wr (.slice ia L ic) (l.map (·.1)) := HI.out.below hbl.out
      obtain ⟨gi, rfl⟩ : ∃ gi, ia = some ⟨gi, 0, none⟩ := by
        obtain ⟨-, h2 | ⟨g', cap, cur, e, -⟩⟩ := hiw
        · exact absurd h2.2 (by rw [List.length_map]; omega)
        · injection e with e; exact ⟨g', e⟩
      have hcell := (hiw.cell (i := k) (x := p.1) (by rw [List.getElem?_map, hp]; rfl)).1
      obtain ⟨pk, pn⟩ := p
      have HAW := Lib.hid (HA1.out.below hbl.out)
      have hat : atN l pk = pn := by unfold atN; rw [hgn]; rfl
      have HAT := Lib.hid hat
      have hsome : (getA l pk).isSome = true := by rw [hgn]; rfl
      have HS := Lib.hid hsome
      have k1 : (0 : Int) ≤ (k : Int) := by omega
      have k2 : (k : Int) < (L : Int) := by omega
      have k3 : k < L := hlt
      have k4 : IntKind.i64.wrap (k : Int) = (k : Int) := by rw [IntKind.wrap_i64]; omega
      replace hcell : wr.cell? ⟨gi, k, none⟩ = some (.int .u64 (pk : Int)) := hcell
      clear hp hkl hgn hiw hat hsome hOL
      go_wp2_with fail
      refine (arget_any g b l pk wr HAW.out h64).mono ?_
      rintro e w2 ⟨v2, rfl, ho2, hb2⟩
      rw [HAT.out] at ho2
      rw [HS.out]
      obtain ⟨kv, rfl, hkd, ok⟩ := ho2
      obtain ⟨ka, kc, rfl⟩ := hkd.slice
      obtain ⟨PL, hPL⟩ : ∃ q, q = pn.kids.length := ⟨_, rfl⟩
      rw [← hPL] at hkd ⊢
      have HPL := Lib.hid hPL
      unfold NdVal
      have HK2 := Lib.hid hkd
      have HOK := Lib.hid ok
      have HX2 := Lib.hid (hx.out.below hb2)
      have HB2 := Lib.hid (btr hbl.out hb2)
      clear hPL hkd ok hx hbl hb2 hcell HAW
      go_upto_region 6 with fail
      have hb3 := bal (bre w2) (.cells #[.int .u8 pn.kind, .string pn.name, .int .i64 pn.num, .int .u8 pn.typ, .int .u64 pn.ref, .slice ka PL kc] 29)
      have hr3 := heap_alloc_new w2 (.cells #[.int .u8 pn.kind, .string pn.name, .int .i64 pn.num, .int .u8 pn.typ, .int .u64 pn.ref, .slice ka PL kc] 29)
      generalize w2.alloc (.cells #[.int .u8 pn.kind, .string pn.name, .int .i64 pn.num, .int .u8 pn.typ, .int .u64 pn.ref, .slice ka PL kc] 29) = w3 at *
      obtain ⟨n6, hn6⟩ : ∃ q, q = w2.heap.size := ⟨_, rfl⟩
      rw [← hn6] at hr3 ⊢
      have hR3 : Row6 w3 n6 pn (.slice ka PL kc) := hr3
      have y0 := hR3.c0
      have y1 := hR3.c1
      have y2 := hR3.c2
      have y3 := hR3.c3
      have y4 := hR3.c4
      have y5 := hR3.c5
      have HK3 := Lib.hid (HK2.out.below hb3)
      have HB3 := Lib.hid (btr HB2.out hb3)
      obtain ⟨rs, hrs, hown, hkids⟩ := HX2.out.below hb3
      have hrsl : rs.length = OL := by rw [HOL.out, ← hrs, List.length_map]
      rw [← HOL.out] at hown
      have HRS := Lib.hid hrs
      have HRSL := Lib.hid hrsl
      have HKIDS := Lib.hid hkids
      have HOWN := Lib.hid hown
      have HSZ3 : Hid (w1.heap.size ≤ w3.heap.size) := Lib.hid HB3.out.size
      clear hb3 hr3 hn6 hR3 hrs hrsl hkids hown HX2 HK2
      go_wp2_with (at_builtin; refine wpList_app rfl _ _ 37 80 7 80 rowX rfl w1.heap.size _ OL (rowsC rs) rfl (World.ownsRow.alloc HOWN.out _) _ 1 1 (rowC (pk, pn) (.slice ka PL kc)) rfl rfl (lies_seven _ _ _ _ _ _ _ _ _) (Nat.le_refl _) (fun h => by cases h) (rowC_one _ _ _ _) (by unfold maxLen; omega) (by omega) (Nat.le_trans HSZ3.out (bal (bre _) _).size) ?_; intro v5 w5 ho5 hg5 hb5)
      have hrx := rows_more (by rw [HRSL.out]; exact World.ownsRow.alloc HOWN.out _) (fun q hq => ⟨(HKIDS.out q hq).1.below (bal (bre _) _), (HKIDS.out q hq).2⟩) (p := (pk, pn)) ((HK3.out.below (bal (bre _) _)).base (Nat.zero_le _)) HOK.out hg5 (by rw [HRSL.out]; exact ho5)
      rw [HRS.out, ← HTK.out] at hrx
      have hbx : Below w1.heap.size w1 w5 := (HB3.out.alloc HB3.out.size _).trans hb5
      have HRX := Lib.hid hrx
      have HBX := Lib.hid hbx
      clear hrx hbx ho5 hg5 hb5
      go_roundw
      case rel => exact ⟨k + 1, by omega, by go_num, HRX, HBX⟩
      case measure => simp [intOf]; omega
    · have d1 : decide ((k : Int) < (L : Int)) = false := decide_eq_false (by omega)
      have d1n : decide (k < L) = false := decide_eq_false hlt
      have htk : l.take k = l := List.take_of_length_le (by rw [← HL.out]; omega)
      have HX : Hid (RowsX w.heap.size wr (.slice va OL vc) l) := Lib.hid (by rw [← htk]; exact hx.out.base HSZ.out)
      have HB := Lib.hid (HB1.out.trans (hbl.out.mono HSZ.out))
      clear htk hx hbl hOL
      go_wp2_with fail
      go_ret
      exact ⟨_, rfl, HX.out, HB.out⟩
end Go.Proofs.Ytnbncjebmlicgaa
