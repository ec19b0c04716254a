/- Walk: the reference's Put. -/
import Derived.Test.YtnbncjebmlicgaaPreD
namespace Go.Proofs.Ytnbncjebmlicgaa
open Go.RowKit

theorem rowC_one (p : Nat × Nd) (a : Option Addr) (n c : Nat) : ∀ u ∈ rowC p (.slice a n c), u.oneCell' = true := fun u hu => by
  unfold rowC at hu
  simp at hu
  rcases hu with rfl | rfl | rfl | rfl | rfl | rfl | rfl <;> rfl

set_option maxRecDepth 20000 in
set_option maxHeartbeats 3200000 in
theorem rput_any (vl : Value) (l : List (Nat × Nd)) (x : Nat) (n : Nd) (na : Option Addr) (nc : Nat) (w : World) (hl : RowsX 0 w vl l) (ha : AscA l) (hfew : l.length ≤ 1000000) (hk : OwnIds 0 w (.slice na n.kids.length nc) n.kids) (ok : n.Ok) :
    Calls Try.prog 22 #[vl, .int .u64 x, NdVal n (.slice na n.kids.length nc)] w fun e w' => ∃ v', e = .returned v' ∧ RowsX w.heap.size w' v' (putA l x n) ∧ Below w.heap.size w w' := by
  obtain ⟨la, lc, rfl⟩ := hl.slice
  have HX := Lib.hid hl
  have HA := Lib.hid ha
  have HK := Lib.hid hk
  have HOK := Lib.hid ok
  obtain ⟨L, hL⟩ : ∃ L, L = l.length := ⟨_, rfl⟩
  have hLm : L ≤ 1000000 := by omega
  rw [← hL] at HX ⊢
  have HL := Lib.hid hL
  obtain ⟨KL, hKL⟩ : ∃ L, L = n.kids.length := ⟨_, rfl⟩
  rw [← hKL] at HK ⊢
  unfold NdVal
  have HKL := Lib.hid hKL
  clear hl ha hk ok hL hKL hfew
  go_enter Try.func22, Try.ntmps22
  go_upto_region 1 with fail
  have hb0 := bal (bre w) (.cells #[.int .u8 n.kind, .string n.name, .int .i64 n.num, .int .u8 n.typ, .int .u64 n.ref, .slice na KL nc] 29)
  have hr0 := heap_alloc_new w (.cells #[.int .u8 n.kind, .string n.name, .int .i64 n.num, .int .u8 n.typ, .int .u64 n.ref, .slice na KL nc] 29)
  generalize w.alloc (.cells #[.int .u8 n.kind, .string n.name, .int .i64 n.num, .int .u8 n.typ, .int .u64 n.ref, .slice na KL nc] 29) = W at *
  obtain ⟨n5, hn5⟩ : ∃ q, q = w.heap.size := ⟨_, rfl⟩
  rw [← hn5] at hr0 ⊢
  have hR5 : Row6 W n5 n (.slice na KL nc) := hr0
  have HR5 := Lib.hid hR5
  have HB0 := Lib.hid hb0
  clear hb0 hr0 hR5 hn5
  go_wp2_with fail
  go_loopw [7, 8, 10, 13] (fun v d _ i wr => ∃ k : Nat, k ≤ L ∧ i = .int .i64 k ∧ d = .bool (putD (l.take k) x) ∧ Hid (RowsX W.heap.size wr v (putO (l.take k) x n)) ∧ Hid (Below W.heap.size W wr)) (fun _ _ _ i _ => L - (intOf i).toNat)
  case atStart => exact ⟨0, by omega, rfl, rfl, Lib.hid (RowsX.nil _ _), Lib.hid (bre W)⟩
  case round =>
    obtain ⟨k, hk, rfl, rfl, hx, hbl⟩ := hrel
    by_cases hlt : k < L
    · have d1 : decide ((k : Int) < (L : Int)) = true := decide_eq_true (by omega)
      have d1n : decide (k < L) = true := decide_eq_true hlt
      have hkl : k < l.length := by rw [← HL.out]; exact hlt
      obtain ⟨p, hp⟩ : ∃ p, l[k]? = some p := ⟨_, List.getElem?_eq_getElem hkl⟩
      have hxw : RowsX 0 wr (.slice la L lc) l := HX.out.below (HB0.out.trans (hbl.out.mono HB0.out.size))
      obtain ⟨g, gn, gc, ka, kc, hla, hkk, okk, c0, c1, c2, c3, c4, c5, c6⟩ := hxw.cell k p hp
      have hla' : la = some ⟨g, 0, none⟩ := by injection hla
      subst hla'
      have htk : l.take (k + 1) = l.take k ++ [p] := by rw [List.take_add_one, hp]; rfl
      obtain ⟨pk, pn⟩ := p
      obtain ⟨PL, hPL⟩ : ∃ q, q = pn.kids.length := ⟨_, rfl⟩
      replace hkk : OwnIds 0 wr (.slice ka pn.kids.length kc) pn.kids := hkk
      replace c0 : wr.cell? ⟨g, k * 7, none⟩ = some (.int .u64 (pk : Int)) := c0
      replace c1 : wr.cell? ⟨g, k * 7 + 1, none⟩ = some (.int .u8 (pn.kind : Int)) := c1
      replace c2 : wr.cell? ⟨g, k * 7 + 2, none⟩ = some (.string pn.name) := c2
      replace c3 : wr.cell? ⟨g, k * 7 + 3, none⟩ = some (.int .i64 pn.num) := c3
      replace c4 : wr.cell? ⟨g, k * 7 + 4, none⟩ = some (.int .u8 (pn.typ : Int)) := c4
      replace c5 : wr.cell? ⟨g, k * 7 + 5, none⟩ = some (.int .u64 (pn.ref : Int)) := c5
      replace c6 : wr.cell? ⟨g, k * 7 + 6, none⟩ = some (.slice ka pn.kids.length kc) := c6
      rw [← hPL] at hkk c6
      have hbef : pk < x → putD (l.take k) x = false := fun h => asc_before (r := (pk, pn)) (s := l.drop (k + 1)) (by
        have : l.take k ++ (pk, pn) :: l.drop (k + 1) = l := by
          have h1 := List.take_append_drop k l
          have hd : l.drop k = (pk, pn) :: l.drop (k + 1) := by
            rw [List.drop_eq_getElem_cons hkl]
            rw [List.getElem?_eq_getElem hkl] at hp
            rw [Option.some.inj hp]
          rw [← hd]
          exact h1
        rw [this]
        exact HA.out) h
      have HTK := Lib.hid htk
      have HBEF := Lib.hid hbef
      have HKK := Lib.hid hkk
      have HOKK := Lib.hid okk
      have HPL := Lib.hid hPL
      clear hkl hp hxw hla hkk okk htk hbef hPL
      go_upto_region 6 with fail
      have hbq := bal (bre wr) (.cells #[.int .u64 pk, .int .u8 pn.kind, .string pn.name, .int .i64 pn.num, .int .u8 pn.typ, .int .u64 pn.ref, .slice ka PL kc] 80)
      have hrq := heap_alloc_new wr (.cells #[.int .u64 pk, .int .u8 pn.kind, .string pn.name, .int .i64 pn.num, .int .u8 pn.typ, .int .u64 pn.ref, .slice ka PL kc] 80)
      generalize wr.alloc (.cells #[.int .u64 pk, .int .u8 pn.kind, .string pn.name, .int .i64 pn.num, .int .u8 pn.typ, .int .u64 pn.ref, .slice ka PL kc] 80) = wq at *
      obtain ⟨n10, hn10⟩ : ∃ q, q = wr.heap.size := ⟨_, rfl⟩
      rw [← hn10] at hrq ⊢
      have hRq : Row7 wq n10 (pk, pn) (.slice ka PL kc) := hrq
      obtain ⟨q0, q1, q2, q3, q4, q5, q6⟩ := hRq.cells
      obtain ⟨va, vc, rfl⟩ := hx.out.slice
      obtain ⟨OL, hOL⟩ : ∃ q, q = (putO (l.take k) x n).length := ⟨_, rfl⟩
      have hOLb : OL ≤ 1000001 := by
        have h1 := putO_len (l.take k) x n
        rw [List.length_take] at h1
        omega
      rw [← hOL] at hx ⊢
      have HRQ := Lib.hid hRq
      have HXQ := Lib.hid (hx.out.below hbq)
      have HLT10 : Hid (∀ q, (Value.slice va OL vc).ownBlock = some q → q < n10) := Lib.hid fun q hq => by
        obtain ⟨rs, -, h2, -⟩ := hx.out
        rw [hn10]
        exact (World.ownsRow.lt h2 q hq).2
      have HBQ := Lib.hid (hbl.out.trans (hbq.mono hbl.out.size))
      have HKQ := Lib.hid (HKK.out.below hbq)
      have HR5Q := Lib.hid (HR5.out.below (hbl.out.trans (hbq.mono hbl.out.size)))
      have HNQ := Lib.hid ((HK.out.below HB0.out).below HBQ.out)
      have HOL := Lib.hid (And.intro hOL hOLb)
      clear hbq hrq hRq hn10 hx hbl hOL hOLb HKK c0 c1 c2 c3 c4 c5 c6
      by_cases hpx : pk = x
      · have s1 : ((pk : Int) == (x : Int)) = true := beq_iff_eq.2 (by omega)
        have s2 : decide ((pk : Int) = (x : Int)) = true := decide_eq_true (by omega)
        have hsk := putO_skip (l := l.take k) (r := (pk, pn)) n hpx
        rw [← HTK.out] at hsk
        have HSK := Lib.hid hsk
        clear hpx hsk
        go_wp2_with fail
        go_roundw
        case rel => exact ⟨k + 1, by omega, by go_num, by rw [HSK.out.1], Lib.hid (by rw [HSK.out.2]; exact HXQ.out), HBQ⟩
        case measure => simp [intOf]; omega
      · have s1 : ((pk : Int) == (x : Int)) = false := beq_false_of_ne (by omega)
        have s2 : decide ((pk : Int) = (x : Int)) = false := decide_eq_false (by omega)
        have HPX := Lib.hid hpx
        clear hpx
        obtain ⟨rs, hrs, hown, hkids⟩ := HXQ.out
        have hrsl : rs.length = OL := by rw [HOL.out.1, ← hrs, List.length_map]
        have HRS := Lib.hid hrs
        have HRSL := Lib.hid hrsl
        have HKIDS := Lib.hid hkids
        rw [← HOL.out.1] at hown
        have HOWN := Lib.hid hown
        have HSZQ := Lib.hid HBQ.out.size
        clear hrs hrsl hkids hown HXQ
        by_cases hin : x < pk ∧ putD (l.take k) x = false
        · have t1 : decide ((x : Int) < (pk : Int)) = true := decide_eq_true (by omega)
          have t2 : decide (x < pk) = true := decide_eq_true hin.1
          have t3 := hin.2
          have hpi := putO_in (l := l.take k) (r := (pk, pn)) n hin.1 hin.2
          rw [← HTK.out] at hpi
          have HPI := Lib.hid hpi
          have hr5 := HR5Q.out
          have y0 := hr5.c0
          have y1 := hr5.c1
          have y2 := hr5.c2
          have y3 := hr5.c3
          have y4 := hr5.c4
          have y5 := hr5.c5
          rw [t3]
          clear hin hpi hr5
          go_upto_region 9 with (at_builtin; refine wpList_app rfl _ _ 37 80 7 80 rowX rfl W.heap.size _ OL (rowsC rs) rfl (World.ownsRow.alloc HOWN.out _) _ 1 1 (rowC (x, n) (.slice na KL nc)) rfl rfl (lies_seven _ _ _ _ _ _ _ _ _) (Nat.le_refl _) (fun h => by cases h) (rowC_one _ _ _ _) (by unfold maxLen; have := HOL.out.2; omega) (by have := HOL.out.2; omega) (Nat.le_trans HSZQ.out (bal (bre _) _).size) ?_; intro v1 w1 ho1 hg1 hb1)
          have hrx := rows_more (by rw [HRSL.out]; exact World.ownsRow.alloc HOWN.out _) (fun q hq => ⟨(HKIDS.out q hq).1.below (bal (bre _) _), (HKIDS.out q hq).2⟩) (p := (x, n)) (HNQ.out.below (bal (bre _) _)) HOK.out hg1 (by rw [HRSL.out]; exact ho1)
          have hr1 : Row7 w1 n10 (pk, pn) (.slice ka PL kc) := (HRQ.out.below (bal (bre wq) _)).kept hg1 (fun q hq e => by have := HLT10.out q hq; omega)
          have hk1 : OwnIds 0 w1 (.slice ka PL kc) pn.kids := (HKQ.out.below (bal (bre _) _)).kept (World.ownsRow.alloc HOWN.out _) hg1
          have hbx : Below W.heap.size W w1 := (HBQ.out.alloc HSZQ.out _).trans hb1
          obtain ⟨rs1, hrs1, hown1, hkids1⟩ := hrx
          have hrsl1 : rs1.length = OL + 1 := by
            have := congrArg List.length hrs1
            rw [List.length_map, List.length_append, List.length_map, HRSL.out] at this
            exact this
          rw [List.length_append, List.length_map, HRSL.out] at hown1
          replace hown1 : w1.ownsRow W.heap.size 80 7 v1 (OL + 1) (rowsC rs1) := hown1
          obtain ⟨a1, c1, rfl, -⟩ := ownsRow_lies ho1
          obtain ⟨q0, q1, q2, q3, q4, q5, q6⟩ := hr1.cells
          have HOWN1 := Lib.hid hown1
          have HKIDS1 := Lib.hid hkids1
          have HRS1 := Lib.hid hrs1
          have HRSL1 := Lib.hid hrsl1
          have HBX1 := Lib.hid hbx
          have HSZ1 := Lib.hid hbx.size
          have HK1 := Lib.hid hk1
          clear hrs1 hown1 hkids1 hrsl1 hbx hk1 ho1 hg1 hb1 hr1 y0 y1 y2 y3 y4 y5
          go_wp2_with (at_builtin; refine wpList_app rfl _ _ 37 80 7 80 rowX rfl W.heap.size _ (OL + 1) (rowsC rs1) rfl (World.ownsRow.alloc HOWN1.out _) _ 1 1 (rowC (pk, pn) (.slice ka PL kc)) rfl rfl (lies_seven _ _ _ _ _ _ _ _ _) (Nat.le_refl _) (fun h => by cases h) (rowC_one _ _ _ _) (by unfold maxLen; have := HOL.out.2; omega) (by have := HOL.out.2; omega) (Nat.le_trans HSZ1.out (bal (bre _) _).size) ?_; intro v2 w2 ho2 hg2 hb2)
          have hrx := rows_more (by rw [HRSL1.out]; exact World.ownsRow.alloc HOWN1.out _) (fun q hq => ⟨(HKIDS1.out q hq).1.below (bal (bre _) _), (HKIDS1.out q hq).2⟩) (p := (pk, pn)) (HK1.out.below (bal (bre _) _)) HOKK.out hg2 (by rw [HRSL1.out]; exact ho2)
          rw [HRS1.out, HRS.out, ← HPI.out.2] at hrx
          have hbx : Below W.heap.size W w2 := (HBX1.out.alloc HSZ1.out _).trans hb2
          have HRX := Lib.hid hrx
          have HBX := Lib.hid hbx
          clear hrx hbx ho2 hg2 hb2
          go_roundw
          case rel => exact ⟨k + 1, by omega, by go_num, by rw [HPI.out.1], HRX, HBX⟩
          case measure => simp [intOf]; omega
        · by_cases hlt2 : x < pk
          · have t1 : decide ((x : Int) < (pk : Int)) = true := decide_eq_true (by omega)
            have t2 : decide (x < pk) = true := decide_eq_true hlt2
            have t3 : putD (l.take k) x = true := by
              cases hd : putD (l.take k) x with
              | true => rfl
              | false => exact absurd ⟨hlt2, hd⟩ hin
            have hon := putO_on (l := l.take k) (r := (pk, pn)) n HPX.out (fun _ => t3) (fun h => absurd hlt2 (Nat.not_lt.2 (Nat.le_of_lt h)))
            rw [← HTK.out] at hon
            have HON := Lib.hid hon
            rw [t3]
            clear hin hlt2 hon
            go_wp2_with (at_builtin; refine wpList_app rfl _ _ 37 80 7 80 rowX rfl W.heap.size _ OL (rowsC rs) rfl (World.ownsRow.alloc HOWN.out _) _ 1 1 (rowC (pk, pn) (.slice ka PL kc)) rfl rfl (lies_seven _ _ _ _ _ _ _ _ _) (Nat.le_refl _) (fun h => by cases h) (rowC_one _ _ _ _) (by unfold maxLen; have := HOL.out.2; omega) (by have := HOL.out.2; omega) (Nat.le_trans HSZQ.out (bal (bre _) _).size) ?_; intro v1 w1 ho1 hg1 hb1)
            have hrx := rows_more (by rw [HRSL.out]; exact World.ownsRow.alloc HOWN.out _) (fun q hq => ⟨(HKIDS.out q hq).1.below (bal (bre _) _), (HKIDS.out q hq).2⟩) (p := (pk, pn)) (HKQ.out.below (bal (bre _) _)) HOKK.out hg1 (by rw [HRSL.out]; exact ho1)
            rw [HRS.out, ← HON.out.2] at hrx
            have hbx : Below W.heap.size W w1 := (HBQ.out.alloc HSZQ.out _).trans hb1
            have HRX := Lib.hid hrx
            have HBX := Lib.hid hbx
            clear hrx hbx ho1 hg1 hb1
            go_roundw
            case rel => exact ⟨k + 1, by omega, by go_num, by rw [HON.out.1, t3], HRX, HBX⟩
            case measure => simp [intOf]; omega
          · have t1 : decide ((x : Int) < (pk : Int)) = false := decide_eq_false (by omega)
            have t2 : decide (x < pk) = false := decide_eq_false hlt2
            have hon := putO_on (l := l.take k) (r := (pk, pn)) n HPX.out (fun h => absurd h hlt2) HBEF.out
            rw [← HTK.out] at hon
            have HON := Lib.hid hon
            clear hin hlt2 hon
            go_wp2_with (at_builtin; refine wpList_app rfl _ _ 37 80 7 80 rowX rfl W.heap.size _ OL (rowsC rs) rfl (World.ownsRow.alloc HOWN.out _) _ 1 1 (rowC (pk, pn) (.slice ka PL kc)) rfl rfl (lies_seven _ _ _ _ _ _ _ _ _) (Nat.le_refl _) (fun h => by cases h) (rowC_one _ _ _ _) (by unfold maxLen; have := HOL.out.2; omega) (by have := HOL.out.2; omega) (Nat.le_trans HSZQ.out (bal (bre _) _).size) ?_; intro v1 w1 ho1 hg1 hb1)
            have hrx := rows_more (by rw [HRSL.out]; exact World.ownsRow.alloc HOWN.out _) (fun q hq => ⟨(HKIDS.out q hq).1.below (bal (bre _) _), (HKIDS.out q hq).2⟩) (p := (pk, pn)) (HKQ.out.below (bal (bre _) _)) HOKK.out hg1 (by rw [HRSL.out]; exact ho1)
            rw [HRS.out, ← HON.out.2] at hrx
            have hbx : Below W.heap.size W w1 := (HBQ.out.alloc HSZQ.out _).trans hb1
            have HRX := Lib.hid hrx
            have HBX := Lib.hid hbx
            clear hrx hbx ho1 hg1 hb1
            go_roundw
            case rel => exact ⟨k + 1, by omega, by go_num, by rw [HON.out.1], HRX, HBX⟩
            case measure => simp [intOf]; omega
    · have d1 : decide ((k : Int) < (L : Int)) = false := decide_eq_false (by omega)
      have d1n : decide (k < L) = false := decide_eq_false hlt
      have htk : l.take k = l := List.take_of_length_le (by rw [← HL.out]; omega)
      rw [htk] at hx ⊢
      obtain ⟨va, vc, rfl⟩ := hx.out.slice
      obtain ⟨OL, hOL⟩ : ∃ q, q = (putO l x n).length := ⟨_, rfl⟩
      have hOLb : OL ≤ 1000001 := by
        have h1 := putO_len l x n
        have := HL.out
        omega
      rw [← hOL] at hx ⊢
      have HOL := Lib.hid (And.intro hOL hOLb)
      have HR5Q := Lib.hid (HR5.out.below hbl.out)
      have HNQ := Lib.hid ((HK.out.below HB0.out).below hbl.out)
      have HSZQ := Lib.hid hbl.out.size
      clear htk hOL hOLb
      cases hd : putD l x with
      | true =>
        have HD := Lib.hid (putO_done n hd)
        clear hd
        go_wp2_with fail
        go_ret
        have h9 := hx.out
        rw [HD.out] at h9
        exact ⟨_, rfl, h9.base HB0.out.size, HB0.out.trans (hbl.out.mono HB0.out.size)⟩
      | false =>
        have HD := Lib.hid (putO_last n hd)
        obtain ⟨rs, hrs, hown, hkids⟩ := hx.out
        have hrsl : rs.length = OL := by rw [HOL.out.1, ← hrs, List.length_map]
        have HRS := Lib.hid hrs
        have HRSL := Lib.hid hrsl
        have HKIDS := Lib.hid hkids
        rw [← HOL.out.1] at hown
        have HOWN := Lib.hid hown
        have hr5 := HR5Q.out
        have y0 := hr5.c0
        have y1 := hr5.c1
        have y2 := hr5.c2
        have y3 := hr5.c3
        have y4 := hr5.c4
        have y5 := hr5.c5
        clear hd hrs hrsl hkids hown hr5 hx
        go_wp2_with (at_builtin; refine wpList_app rfl _ _ 37 80 7 80 rowX rfl W.heap.size _ OL (rowsC rs) rfl (World.ownsRow.alloc HOWN.out _) _ 1 1 (rowC (x, n) (.slice na KL nc)) rfl rfl (lies_seven _ _ _ _ _ _ _ _ _) (Nat.le_refl _) (fun h => by cases h) (rowC_one _ _ _ _) (by unfold maxLen; have := HOL.out.2; omega) (by have := HOL.out.2; omega) (Nat.le_trans HSZQ.out (bal (bre _) _).size) ?_; intro v1 w1 ho1 hg1 hb1)
        go_ret
        have hrx := rows_more (by rw [HRSL.out]; exact World.ownsRow.alloc HOWN.out _) (fun q hq => ⟨(HKIDS.out q hq).1.below (bal (bre _) _), (HKIDS.out q hq).2⟩) (p := (x, n)) (HNQ.out.below (bal (bre _) _)) HOK.out hg1 (by rw [HRSL.out]; exact ho1)
        rw [HRS.out, HD.out] at hrx
        have hbx : Below W.heap.size W w1 := (hbl.out.alloc HSZQ.out _).trans hb1
        exact ⟨_, rfl, hrx.base HB0.out.size, HB0.out.trans (hbx.mono HB0.out.size)⟩
end Go.Proofs.Ytnbncjebmlicgaa
