/- Walks: the reference's At, In, Less. -/
import Derived.Test.YtnbncjebmlicgaaArRputW
namespace Go.Proofs.Ytnbncjebmlicgaa
open Go.RowKit

set_option maxRecDepth 20000 in
set_option maxHeartbeats 1600000 in
theorem rin_any (v : Value) (l : List Nat) (x : Nat) (w : World) (hv : Ids w v l) :
    Calls Try.prog 44 #[v, .int .u64 x] w fun e w' => e = .returned (.bool (decide (x ∈ l))) ∧ w' = w := by
  obtain ⟨a, c, rfl, hm, hc, hn, hrow⟩ := hv
  have HR := Lib.hid hrow
  obtain ⟨L, hL⟩ : ∃ L, L = l.length := ⟨_, rfl⟩
  rw [← hL] at hm hc ⊢
  have HL := Lib.hid hL
  unfold maxLen at hm
  obtain ⟨R, hR⟩ : ∃ R, R = decide (x ∈ l) := ⟨_, rfl⟩
  rw [← hR]
  have HRR := Lib.hid hR
  clear hrow hL hn hR
  go_enter Try.func44, Try.ntmps44
  go_wp2
  go_loopw [6, 9] (fun _ i wr => ∃ k : Nat, k ≤ L ∧ i = .int .i64 k ∧ wr = w ∧ Hid (∀ j, j < k → l[j]? ≠ some x)) (fun _ i _ => L - (intOf i).toNat)
  case atStart => exact ⟨0, by omega, rfl, rfl, Lib.hid fun j hj => absurd hj (Nat.not_lt_zero j)⟩
  case round =>
    obtain ⟨k, hk, rfl, rfl, hb⟩ := hrel
    by_cases hlt : k < L
    · have d1 : decide ((k : Int) < (L : Int)) = true := decide_eq_true (by omega)
      have d1n : decide (k < L) = true := decide_eq_true hlt
      obtain ⟨y, hy⟩ : ∃ y, l[k]? = some y := ⟨_, List.getElem?_eq_getElem (by rw [← HL.out]; exact hlt)⟩
      obtain ⟨g, o, rfl, hcell⟩ : ∃ g o, a = some ⟨g, o, none⟩ ∧ wr.cell? ⟨g, o + k, none⟩ = some (.int .u64 (y : Int)) := by
        rcases HR.out with h | ⟨g, o, ha, h⟩
        · rw [h] at hy; cases hy
        · obtain ⟨u, hu, rfl⟩ := h k y hy
          exact ⟨g, o, ha, hu⟩
      have k1 : (0 : Int) ≤ (k : Int) := by omega
      have k2 : (k : Int) < (L : Int) := by omega
      have k4 : IntKind.i64.wrap (k : Int) = (k : Int) := by rw [IntKind.wrap_i64]; omega
      have HY := Lib.hid hy
      clear hy
      by_cases hxy : x = y
      · subst hxy
        have HX : Hid (R = true) := Lib.hid (by rw [HRR.out]; exact decide_eq_true (List.mem_of_getElem? HY.out))
        go_wp2
        go_ret
        exact ⟨by rw [HX.out]; rfl, rfl⟩
      · have e1 : ((x : Int) == (y : Int)) = false := beq_false_of_ne (by omega)
        have e2 : decide ((x : Int) = (y : Int)) = false := decide_eq_false (by omega)
        have e3 : (x == y) = false := beq_false_of_ne hxy
        have e4 : decide (x = y) = false := decide_eq_false hxy
        have hb2 : Hid (∀ j, j < k + 1 → l[j]? ≠ some x) := Lib.hid fun j hj => by
          by_cases hjk : j = k
          · subst hjk; rw [HY.out]; intro e; exact hxy (Option.some.inj e).symm
          · exact hb.out j (by omega)
        clear hxy hb
        go_wp2
        exact ⟨⟨k + 1, by omega, by go_num, trivial, hb2⟩, by simp [intOf]; omega⟩
    · have d1 : decide ((k : Int) < (L : Int)) = false := decide_eq_false (by omega)
      have d1n : decide (k < L) = false := decide_eq_false hlt
      have HX : Hid (R = false) := Lib.hid (by
        rw [HRR.out]
        refine decide_eq_false fun hm => ?_
        obtain ⟨j, hj⟩ := List.getElem?_of_mem hm
        have := (List.getElem?_eq_some_iff.1 hj).1
        exact hb.out j (by rw [← HL.out] at this; omega) hj)
      clear hb
      go_wp2
      go_ret
      exact ⟨by rw [HX.out]; rfl, rfl⟩

set_option maxRecDepth 20000 in
set_option maxHeartbeats 1600000 in
theorem rat_any (v : Value) (l : List (Nat × Nd)) (x : Nat) (w : World) (hl : RowsX 0 w v l) (hfew : l.length ≤ 1000000) :
    Calls Try.prog 43 #[v, .int .u64 x] w fun e w' => e = .returned (.int .i64 (idxI (l.map (·.1)) x)) ∧ Below w.heap.size w w' := by
  obtain ⟨la, lc, rfl⟩ := hl.slice
  have HX := Lib.hid hl
  obtain ⟨L, hL⟩ : ∃ L, L = l.length := ⟨_, rfl⟩
  rw [← hL] at HX hfew ⊢
  have HL := Lib.hid hL
  obtain ⟨R, hR⟩ : ∃ R, R = idxI (l.map (·.1)) x := ⟨_, rfl⟩
  rw [← hR]
  have HRR := Lib.hid hR
  clear hl hL hR
  go_enter Try.func43, Try.ntmps43
  go_wp2_with fail
  go_loopw [5, 6, 9] (fun _ _ i wr => ∃ k : Nat, k ≤ L ∧ i = .int .i64 k ∧ Hid (Below w.heap.size w wr) ∧ Hid (∀ j, j < k → (l.map (·.1))[j]? ≠ some x)) (fun _ _ i _ => L - (intOf i).toNat)
  case atStart => exact ⟨0, by omega, rfl, Lib.hid (bre w), Lib.hid fun j hj => absurd hj (Nat.not_lt_zero j)⟩
  case round =>
    obtain ⟨k, hk, rfl, hbl, hb⟩ := hrel
    by_cases hlt : k < L
    · have d1 : decide ((k : Int) < (L : Int)) = true := decide_eq_true (by omega)
      have d1n : decide (k < L) = true := decide_eq_true hlt
      obtain ⟨p, hp⟩ : ∃ p, l[k]? = some p := ⟨_, List.getElem?_eq_getElem (by rw [← HL.out]; exact hlt)⟩
      obtain ⟨g, gn, gc, ka, kc, hla, hkk, okk, c0, c1, c2, c3, c4, c5, c6⟩ := (HX.out.below hbl.out).cell k p hp
      have hla' : la = some ⟨g, 0, none⟩ := by injection hla
      subst hla'
      obtain ⟨pk, pn⟩ := p
      obtain ⟨PL, hPL⟩ : ∃ q, q = pn.kids.length := ⟨_, rfl⟩
      replace c0 : wr.cell? ⟨g, k * 7, none⟩ = some (.int .u64 (pk : Int)) := c0
      replace c1 : wr.cell? ⟨g, k * 7 + 1, none⟩ = some (.int .u8 (pn.kind : Int)) := c1
      replace c2 : wr.cell? ⟨g, k * 7 + 2, none⟩ = some (.string pn.name) := c2
      replace c3 : wr.cell? ⟨g, k * 7 + 3, none⟩ = some (.int .i64 pn.num) := c3
      replace c4 : wr.cell? ⟨g, k * 7 + 4, none⟩ = some (.int .u8 (pn.typ : Int)) := c4
      replace c5 : wr.cell? ⟨g, k * 7 + 5, none⟩ = some (.int .u64 (pn.ref : Int)) := c5
      replace c6 : wr.cell? ⟨g, k * 7 + 6, none⟩ = some (.slice ka pn.kids.length kc) := c6
      rw [← hPL] at c6
      have HKY : Hid ((l.map (·.1))[k]? = some pk) := Lib.hid (by rw [List.getElem?_map, hp]; rfl)
      clear hla hkk okk hp hPL
      go_upto_region 4 with fail
      have hbq := bal (bre wr) (.cells #[.int .u64 pk, .int .u8 pn.kind, .string pn.name, .int .i64 pn.num, .int .u8 pn.typ, .int .u64 pn.ref, .slice ka PL kc] 80)
      have hrq := heap_alloc_new wr (.cells #[.int .u64 pk, .int .u8 pn.kind, .string pn.name, .int .i64 pn.num, .int .u8 pn.typ, .int .u64 pn.ref, .slice ka PL kc] 80)
      generalize wr.alloc (.cells #[.int .u64 pk, .int .u8 pn.kind, .string pn.name, .int .i64 pn.num, .int .u8 pn.typ, .int .u64 pn.ref, .slice ka PL kc] 80) = wq at *
      obtain ⟨n6, hn6⟩ : ∃ q, q = wr.heap.size := ⟨_, rfl⟩
      rw [← hn6] at hrq ⊢
      have q0 := cell_of_row wq n6 0 _ _ _ hrq
      have HBQ := Lib.hid (btr hbl.out hbq)
      clear hbq hrq hn6 hbl c0 c1 c2 c3 c4 c5 c6
      by_cases hxy : pk = x
      · subst hxy
        have HX : Hid (R = (k : Int)) := Lib.hid (by rw [HRR.out]; exact idxI_hit HKY.out hb.out)
        clear hb
        go_wp2_with fail
        go_ret
        exact ⟨by rw [HX.out]; rfl, HBQ.out⟩
      · have e1 : ((pk : Int) == (x : Int)) = false := beq_false_of_ne (by omega)
        have e2 : decide ((pk : Int) = (x : Int)) = false := decide_eq_false (by omega)
        have e3 : (pk == x) = false := beq_false_of_ne hxy
        have e4 : decide (pk = x) = false := decide_eq_false hxy
        have hb2 : Hid (∀ j, j < k + 1 → (l.map (·.1))[j]? ≠ some x) := Lib.hid fun j hj => by
          by_cases hjk : j = k
          · subst hjk; rw [HKY.out]; intro e; exact hxy (Option.some.inj e)
          · exact hb.out j (by omega)
        clear hxy hb
        go_wp2_with fail
        exact ⟨⟨k + 1, by omega, by go_num, HBQ, hb2⟩, by simp [intOf]; omega⟩
    · have d1 : decide ((k : Int) < (L : Int)) = false := decide_eq_false (by omega)
      have d1n : decide (k < L) = false := decide_eq_false hlt
      have HX : Hid (R = -1) := Lib.hid (by
        rw [HRR.out]
        refine idxI_miss fun j hj => hb.out j ?_
        rw [List.length_map, ← HL.out] at hj
        omega)
      clear hb
      go_wp2_with fail
      go_ret
      exact ⟨by rw [HX.out]; rfl, hbl.out⟩

/-- a row of the reference's as it stands in memory -/
theorem RowsX.one {w : World} {a : Option Addr} {n c : Nat} {l : List (Nat × Nd)} (h : RowsX 0 w (.slice a n c) l) {k : Nat} {p : Nat × Nd} (hp : l[k]? = some p) : ∃ g ka kc, a = some ⟨g, 0, none⟩ ∧ OwnIds 0 w (.slice ka p.2.kids.length kc) p.2.kids ∧ p.2.Ok ∧
    w.cell? ⟨g, k * 7, none⟩ = some (.int .u64 p.1) ∧ w.cell? ⟨g, k * 7 + 1, none⟩ = some (.int .u8 p.2.kind) ∧ w.cell? ⟨g, k * 7 + 2, none⟩ = some (.string p.2.name) ∧ w.cell? ⟨g, k * 7 + 3, none⟩ = some (.int .i64 p.2.num) ∧ w.cell? ⟨g, k * 7 + 4, none⟩ = some (.int .u8 p.2.typ) ∧ w.cell? ⟨g, k * 7 + 5, none⟩ = some (.int .u64 p.2.ref) ∧ w.cell? ⟨g, k * 7 + 6, none⟩ = some (.slice ka p.2.kids.length kc) := by
  obtain ⟨g, gn, gc, ka, kc, hla, hkk, okk, c⟩ := h.cell k p hp
  exact ⟨g, ka, kc, by injection hla, hkk, okk, c⟩

def lessR (l : List (Nat × Nd)) (ids : List Nat) : List (Nat × Nd) := l.filter fun p => !decide (p.1 ∈ ids)

set_option maxRecDepth 20000 in
set_option maxHeartbeats 3200000 in
theorem rless_any (v vi : Value) (l : List (Nat × Nd)) (ids : List Nat) (w : World) (hl : RowsX 0 w v l) (hi : Ids w vi ids) (hfew : l.length ≤ 1000000) :
    Calls Try.prog 26 #[v, vi] w fun e w' => ∃ v', e = .returned v' ∧ RowsX w.heap.size w' v' (lessR l ids) ∧ Below w.heap.size w w' := by
  obtain ⟨la, lc, rfl⟩ := hl.slice
  obtain ⟨ia, ic, rfl, -⟩ := id hi
  have HI := Lib.hid hi
  have HX := Lib.hid hl
  obtain ⟨IL, hIL⟩ : ∃ L, L = ids.length := ⟨_, rfl⟩
  rw [← hIL] at HI ⊢
  obtain ⟨L, hL⟩ : ∃ L, L = l.length := ⟨_, rfl⟩
  rw [← hL] at HX hfew ⊢
  have HL := Lib.hid hL
  clear hl hL hi hIL
  go_enter Try.func26, Try.ntmps26
  go_wp2_with fail
  go_loopw [5, 7, 10] (fun v _ i wr => ∃ k : Nat, k ≤ L ∧ i = .int .i64 k ∧ Hid (RowsX w.heap.size wr v (lessR (l.take k) ids)) ∧ Hid (Below w.heap.size w wr)) (fun _ _ i _ => L - (intOf i).toNat)
  case atStart => exact ⟨0, by omega, rfl, Lib.hid (RowsX.nil _ _), Lib.hid (bre w)⟩
  case round =>
    obtain ⟨k, hk, rfl, hx, hbl⟩ := hrel
    obtain ⟨va, vc, rfl⟩ := hx.out.slice
    obtain ⟨OL, hOL⟩ : ∃ q, q = (lessR (l.take k) ids).length := ⟨_, rfl⟩
    have hOLb : OL ≤ 1000000 := by
      have h1 : (lessR (l.take k) ids).length ≤ (l.take k).length := List.length_filter_le _ _
      rw [List.length_take] at h1
      omega
    have HOL := Lib.hid hOL
    rw [← hOL] at hx ⊢
    clear hOL
    by_cases hlt : k < L
    · have d1 : decide ((k : Int) < (L : Int)) = true := decide_eq_true (by omega)
      have d1n : decide (k < L) = true := decide_eq_true hlt
      obtain ⟨p, hp⟩ : ∃ p, l[k]? = some p := ⟨_, List.getElem?_eq_getElem (by rw [← HL.out]; exact hlt)⟩
      obtain ⟨g, ka, kc, rfl, hkk, okk, c0, c1, c2, c3, c4, c5, c6⟩ := (HX.out.below hbl.out).one hp
      have htk : l.take (k + 1) = l.take k ++ [p] := by rw [List.take_add_one, hp]; rfl
      have HTK := Lib.hid htk
      obtain ⟨pk, pn⟩ := p
      obtain ⟨PL, hPL⟩ : ∃ q, q = pn.kids.length := ⟨_, rfl⟩
      replace hkk : OwnIds 0 wr (.slice ka pn.kids.length kc) pn.kids := hkk
      replace c0 : wr.cell? ⟨g, k * 7, none⟩ = some (.int .u64 (pk : Int)) := c0
      replace c1 : wr.cell? ⟨g, k * 7 + 1, none⟩ = some (.int .u8 (pn.kind : Int)) := c1
      replace c2 : wr.cell? ⟨g, k * 7 + 2, none⟩ = some (.string pn.name) := c2
      replace c3 : wr.cell? ⟨g, k * 7 + 3, none⟩ = some (.int .i64 pn.num) := c3
      replace c4 : wr.cell? ⟨g, k * 7 + 4, none⟩ = some (.int .u8 (pn.typ : Int)) := c4
      replace c5 : wr.cell? ⟨g, k * 7 + 5, none⟩ = some (.int .u64 (pn.ref : Int)) := c5
      replace c6 : wr.cell? ⟨g, k * 7 + 6, none⟩ = some (.slice ka pn.kids.length kc) := c6
      rw [← hPL] at c6 hkk
      have HOKK := Lib.hid okk
      clear okk hp hPL htk
      go_upto_region 5 with fail
      have hbq := bal (bre wr) (.cells #[.int .u64 pk, .int .u8 pn.kind, .string pn.name, .int .i64 pn.num, .int .u8 pn.typ, .int .u64 pn.ref, .slice ka PL kc] 80)
      have hrq := heap_alloc_new wr (.cells #[.int .u64 pk, .int .u8 pn.kind, .string pn.name, .int .i64 pn.num, .int .u8 pn.typ, .int .u64 pn.ref, .slice ka PL kc] 80)
      generalize wr.alloc (.cells #[.int .u64 pk, .int .u8 pn.kind, .string pn.name, .int .i64 pn.num, .int .u8 pn.typ, .int .u64 pn.ref, .slice ka PL kc] 80) = wq at *
      obtain ⟨n6, hn6⟩ : ∃ q, q = wr.heap.size := ⟨_, rfl⟩
      rw [← hn6] at hrq ⊢
      have hRq : Row7 wq n6 (pk, pn) (.slice ka PL kc) := hrq
      have HRQ := Lib.hid hRq
      obtain ⟨q0, q1, q2, q3, q4, q5, q6⟩ := hRq.cells
      have HBQ := Lib.hid (btr hbl.out hbq)
      have HKQ := Lib.hid (hkk.below hbq)
      have HXQ := Lib.hid (hx.out.below hbq)
      have HIQ := Lib.hid (HI.out.below (btr hbl.out hbq))
      clear hbq hrq hn6 hbl c0 c1 c2 c3 c4 c5 c6 hkk hx hRq
      go_wp2_with fail
      refine (rin_any _ ids pk wq HIQ.out).mono ?_
      rintro e w1 ⟨rfl, hw1⟩
      have hw1' := hw1.symm
      subst hw1'
      obtain ⟨bb, hbb⟩ : ∃ bb, bb = decide (pk ∈ ids) := ⟨_, rfl⟩
      rw [← hbb]
      have HBB := Lib.hid hbb
      clear hbb hw1
      cases bb with
      | true =>
        have HLS : Hid (lessR (l.take (k + 1)) ids = lessR (l.take k) ids) := Lib.hid (by
          unfold lessR
          rw [HTK.out, List.filter_append, List.filter_cons_of_neg (by rw [← HBB.out]; decide), List.filter_nil, List.append_nil])
        go_wp2_with fail
        go_roundw
        case rel => exact ⟨k + 1, by omega, by go_num, Lib.hid (by rw [HLS.out]; exact HXQ.out), HBQ⟩
        case measure => simp [intOf]; omega
      | false =>
        have HLS : Hid (lessR (l.take (k + 1)) ids = lessR (l.take k) ids ++ [(pk, pn)]) := Lib.hid (by
          unfold lessR
          rw [HTK.out, List.filter_append, List.filter_cons_of_pos (by rw [← HBB.out]; decide), List.filter_nil])
        obtain ⟨rs, hrs, hown, hkids⟩ := HXQ.out
        have hrsl : rs.length = OL := by rw [HOL.out, ← hrs, List.length_map]
        rw [← HOL.out] at hown
        have HRS := Lib.hid hrs
        have HRSL := Lib.hid hrsl
        have HKIDS := Lib.hid hkids
        have HOWN := Lib.hid hown
        have HSZ := Lib.hid HBQ.out.size
        clear hrs hrsl hkids hown HXQ
        go_wp2_with (at_builtin; refine wpList_app rfl _ _ 37 80 7 80 rowX rfl w.heap.size _ OL (rowsC rs) rfl (World.ownsRow.alloc HOWN.out _) _ 1 1 (rowC (pk, pn) (.slice ka PL kc)) rfl rfl (lies_seven _ _ _ _ _ _ _ _ _) (Nat.le_refl _) (fun h => by cases h) (rowC_one _ _ _ _) (by unfold maxLen; omega) (by omega) (Nat.le_trans HSZ.out (bal (bre _) _).size) ?_; intro v5 w5 ho5 hg5 hb5)
        have hrx := rows_more (by rw [HRSL.out]; exact World.ownsRow.alloc HOWN.out _) (fun q hq => ⟨(HKIDS.out q hq).1.below (bal (bre _) _), (HKIDS.out q hq).2⟩) (p := (pk, pn)) (HKQ.out.below (bal (bre _) _)) HOKK.out hg5 (by rw [HRSL.out]; exact ho5)
        rw [HRS.out, ← HLS.out] at hrx
        have hbx : Below w.heap.size w w5 := (HBQ.out.alloc HBQ.out.size _).trans hb5
        have HRX := Lib.hid hrx
        have HBX := Lib.hid hbx
        clear hrx hbx ho5 hg5 hb5
        go_roundw
        case rel => exact ⟨k + 1, by omega, by go_num, HRX, HBX⟩
        case measure => simp [intOf]; omega
    · have d1 : decide ((k : Int) < (L : Int)) = false := decide_eq_false (by omega)
      have d1n : decide (k < L) = false := decide_eq_false hlt
      have HX2 : Hid (RowsX w.heap.size wr (.slice va OL vc) (lessR l ids)) := Lib.hid (by have h1 := hx.out; rw [List.take_of_length_le (by rw [← HL.out]; omega)] at h1; exact h1)
      clear hx
      go_wp2_with fail
      go_ret
      exact ⟨_, rfl, HX2.out, hbl.out⟩
end Go.Proofs.Ytnbncjebmlicgaa
