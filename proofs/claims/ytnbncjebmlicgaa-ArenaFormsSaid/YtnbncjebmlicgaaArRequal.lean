/- Walk: the reference's Equal. -/
import Derived.Test.YtnbncjebmlicgaaArRsame
namespace Go.Proofs.Ytnbncjebmlicgaa
open Go.RowKit

theorem anyZ_oneSkip {P : Program} {ops : Array Oper} {Q : Exit → Act → World → Prop} {md : Region.Mode} {S : World → Prop} {i z : Nat} {oi : Oper} {fuel : Nat} {listed : Array Bool} {a : Act} {w : World} (hcl : Closed md ops listed) (hr : Region.ready md ops listed = [i]) (hi : ops[i]? = some oi) (hg : Region.wanted oi (yielded ops a.tmps) = false)
    (hS : (listed.setIfInBounds i true).getD z true = false → S w) (h : Closed md ops (listed.setIfInBounds i true) → AnyZ P md ops Q S z fuel (listed.setIfInBounds i true) (a.put oi.dst undef) w) :
    AnyZ P md ops Q S z (fuel + 1) listed a w := by
  refine ⟨fun h0 => (by rw [hr] at h0; cases h0), fun j hj => ?_⟩
  rw [hr] at hj
  have hji : j = i := by simpa using hj
  subst hji
  unfold wpOp
  simp only [hi]
  rw [if_neg (by rw [hg]; decide)]
  exact ⟨hS, h (hcl.set (by rw [hr]; simp))⟩

set_option linter.unusedSimpArgs false in
set_option maxRecDepth 20000 in
set_option maxHeartbeats 3200000 in
theorem requal_any (va vb : Value) (l m : List (Nat × Nd)) (R : Bool) (hR : R = true ↔ l = m) (w : World) (hl : RowsX 0 w va l) (hm : RowsX 0 w vb m) (hfew : l.length ≤ 1000000) :
    Calls Try.prog 19 #[va, vb] w fun e w' => e = .returned (.bool R) ∧ Below w.heap.size w w' := by
  obtain ⟨la, lc, rfl⟩ := hl.slice
  obtain ⟨ma, mc, rfl⟩ := hm.slice
  have HX := Lib.hid hl
  have HY := Lib.hid hm
  have HRES := Lib.hid hR
  obtain ⟨L, hL⟩ : ∃ L, L = l.length := ⟨_, rfl⟩
  obtain ⟨M, hM⟩ : ∃ L, L = m.length := ⟨_, rfl⟩
  have hLm : L ≤ 1000000 := by omega
  rw [← hL] at HX ⊢
  rw [← hM] at HY ⊢
  have HL := Lib.hid hL
  have HM := Lib.hid hM
  clear hl hm hR hL hM hfew
  by_cases hlm : L = M
  · subst hlm
    go_enter Try.func19, Try.ntmps19
    go_wp2_with fail
    go_loopw [5, 13] (fun _ i wr => ∃ k : Nat, k ≤ L ∧ i = .int .i64 k ∧ Hid (Below w.heap.size w wr) ∧ Hid (l.take k = m.take k)) (fun _ i _ => L - (intOf i).toNat)
    case atStart => exact ⟨0, by omega, rfl, Lib.hid (bre w), Lib.hid rfl⟩
    case round =>
      obtain ⟨k, hk, rfl, hbl, htk⟩ := hrel
      by_cases hlt : k < L
      · have d1 : decide ((k : Int) < (L : Int)) = true := decide_eq_true (by omega)
        have d1n : decide (k < L) = true := decide_eq_true hlt
        obtain ⟨p, hp⟩ : ∃ p, l[k]? = some p := ⟨_, List.getElem?_eq_getElem (by rw [← HL.out]; exact hlt)⟩
        obtain ⟨q, hq⟩ : ∃ q, m[k]? = some q := ⟨_, List.getElem?_eq_getElem (by rw [← HM.out]; exact hlt)⟩
        obtain ⟨g1, gn1, gc1, ka, kc, hla, hkk, okk, c0, c1, c2, c3, c4, c5, c6⟩ := (HX.out.below hbl.out).cell k p hp
        obtain ⟨g2, gn2, gc2, ja, jc, hma, hjk, ojk, e0, e1, e2, e3, e4, e5, e6⟩ := (HY.out.below hbl.out).cell k q hq
        have hla' : la = some ⟨g1, 0, none⟩ := by injection hla
        have hma' : ma = some ⟨g2, 0, none⟩ := by injection hma
        subst hla'
        subst hma'
        obtain ⟨pk, pn⟩ := p
        obtain ⟨qk, qn⟩ := q
        have htk1 : l.take (k + 1) = l.take k ++ [(pk, pn)] := by rw [List.take_add_one, hp]; rfl
        have htk2 : m.take (k + 1) = m.take k ++ [(qk, qn)] := by rw [List.take_add_one, hq]; rfl
        have hno : (pk, pn) ≠ (qk, qn) → R = false := fun hne => by
          cases hRb : R with
          | false => rfl
          | true =>
            have := HRES.out.1 hRb
            rw [this, hq] at hp
            exact absurd (Option.some.inj hp).symm hne
        have HNO := Lib.hid hno
        have HTK := Lib.hid (And.intro htk1 htk2)
        obtain ⟨PL, hPL⟩ : ∃ q, q = pn.kids.length := ⟨_, rfl⟩
        obtain ⟨QL, hQL⟩ : ∃ q, q = qn.kids.length := ⟨_, rfl⟩
        replace hkk : OwnIds 0 wr (.slice ka pn.kids.length kc) pn.kids := hkk
        replace hjk : OwnIds 0 wr (.slice ja qn.kids.length jc) qn.kids := hjk
        have HSB : Hid (∀ w', Below wr.heap.size wr w' → (w'.cell? ⟨g1, k * 7, none⟩ = some (.int .u64 (pk : Nat)) ∧ w'.cell? ⟨g1, k * 7 + 1, none⟩ = some (.int .u8 pn.kind) ∧ w'.cell? ⟨g1, k * 7 + 2, none⟩ = some (.string pn.name) ∧ w'.cell? ⟨g1, k * 7 + 3, none⟩ = some (.int .i64 pn.num) ∧ w'.cell? ⟨g1, k * 7 + 4, none⟩ = some (.int .u8 pn.typ) ∧ w'.cell? ⟨g1, k * 7 + 5, none⟩ = some (.int .u64 pn.ref) ∧ w'.cell? ⟨g1, k * 7 + 6, none⟩ = some (.slice ka PL kc) ∧ w'.cell? ⟨g2, k * 7, none⟩ = some (.int .u64 (qk : Nat)) ∧ w'.cell? ⟨g2, k * 7 + 1, none⟩ = some (.int .u8 qn.kind) ∧ w'.cell? ⟨g2, k * 7 + 2, none⟩ = some (.string qn.name) ∧ w'.cell? ⟨g2, k * 7 + 3, none⟩ = some (.int .i64 qn.num) ∧ w'.cell? ⟨g2, k * 7 + 4, none⟩ = some (.int .u8 qn.typ) ∧ w'.cell? ⟨g2, k * 7 + 5, none⟩ = some (.int .u64 qn.ref) ∧ w'.cell? ⟨g2, k * 7 + 6, none⟩ = some (.slice ja QL jc))) := Lib.hid fun w' hb => by
          have k1 := fun (a : Addr) (v : Value) (h : wr.cell? a = some v) => (hb.cell (p := a) (block_lt_of_cell h)).trans h
          rw [hPL, hQL]
          exact ⟨k1 _ _ c0, k1 _ _ c1, k1 _ _ c2, k1 _ _ c3, k1 _ _ c4, k1 _ _ c5, k1 _ _ c6, k1 _ _ e0, k1 _ _ e1, k1 _ _ e2, k1 _ _ e3, k1 _ _ e4, k1 _ _ e5, k1 _ _ e6⟩
        rw [← hPL] at hkk
        rw [← hQL] at hjk
        have HKK := Lib.hid hkk
        have HJK := Lib.hid hjk
        have HOK : Hid (pn.Ok ∧ qn.Ok) := Lib.hid ⟨okk, ojk⟩
        clear hp hq hla hma htk1 htk2 hno hkk hjk okk ojk hPL hQL c0 c1 c2 c3 c4 c5 c6 e0 e1 e2 e3 e4 e5 e6
        by_cases hid : pk = qk
        · have s1 : ((pk : Int) == (qk : Int)) = true := beq_iff_eq.2 (by omega)
          have s2 : ((pk : Int) != (qk : Int)) = false := by rw [bne, s1]; rfl
          go_upto_region 6 with fail
          refine region_anyZ (z := 22) (S := fun w' => (w'.cell? ⟨g1, k * 7, none⟩ = some (.int .u64 (pk : Nat)) ∧ w'.cell? ⟨g1, k * 7 + 1, none⟩ = some (.int .u8 pn.kind) ∧ w'.cell? ⟨g1, k * 7 + 2, none⟩ = some (.string pn.name) ∧ w'.cell? ⟨g1, k * 7 + 3, none⟩ = some (.int .i64 pn.num) ∧ w'.cell? ⟨g1, k * 7 + 4, none⟩ = some (.int .u8 pn.typ) ∧ w'.cell? ⟨g1, k * 7 + 5, none⟩ = some (.int .u64 pn.ref) ∧ w'.cell? ⟨g1, k * 7 + 6, none⟩ = some (.slice ka PL kc) ∧ w'.cell? ⟨g2, k * 7, none⟩ = some (.int .u64 (qk : Nat)) ∧ w'.cell? ⟨g2, k * 7 + 1, none⟩ = some (.int .u8 qn.kind) ∧ w'.cell? ⟨g2, k * 7 + 2, none⟩ = some (.string qn.name) ∧ w'.cell? ⟨g2, k * 7 + 3, none⟩ = some (.int .i64 qn.num) ∧ w'.cell? ⟨g2, k * 7 + 4, none⟩ = some (.int .u8 qn.typ) ∧ w'.cell? ⟨g2, k * 7 + 5, none⟩ = some (.int .u64 qn.ref) ∧ w'.cell? ⟨g2, k * 7 + 6, none⟩ = some (.slice ja QL jc))) (by kernel_rfl) ?_
          refine anyZ_begin (fun hcl0 => ?_)
          refine anyZ_held (by exact HSB.out _ (bdr (bre wr))) (fun hHeld => ?_)
          -- 0: Op.move (Operand.tmp 0)
          refine' anyZ_pure (i := 0) (v := _) rfl (by rfl) (by kernel_rfl) (by kernel_rfl) (by kernel_rfl) hcl0 (fun _ _ _ h => h) (Or.inl ⟨by rfl, fun w _ => ?hy1⟩) (fun _ => hHeld) (fun hcl1 => ?ry1)
          case hy1 => (simp only [List.getElem_toArray, List.getElem_cons_zero]; first | (go_simp; with_reducible rfl) | (go_simp; done) | rfl)
          simp only [List.getElem_toArray, List.getElem_cons_zero, Act.put, List.setIfInBounds_toArray, List.set_cons_zero, List.set_cons_succ]
          -- 1: Op.move (Operand.tmp 5)
          refine' anyZ_pure (i := 1) (v := _) rfl (by rfl) (by kernel_rfl) (by kernel_rfl) (by kernel_rfl) hcl1 (fun _ _ _ h => h) (Or.inl ⟨by rfl, fun w _ => ?hy2⟩) (fun _ => hHeld) (fun hcl2 => ?ry2)
          case hy2 => (simp only [List.getElem_toArray, List.getElem_cons_succ, List.getElem_cons_zero]; first | (go_simp; with_reducible rfl) | (go_simp; done) | rfl)
          simp only [List.getElem_toArray, List.getElem_cons_succ, List.getElem_cons_zero, Act.put, List.setIfInBounds_toArray, List.set_cons_zero, List.set_cons_succ]
          -- 2: Op.indexAddr 37 (Operand.tmp 16) (Operand.tmp 17)
          refine' anyZ_pure (i := 2) (v := _) rfl (by rfl) (by kernel_rfl) (by kernel_rfl) (by kernel_rfl) hcl2 (fun _ _ _ h => h) (Or.inl ⟨by rfl, fun w _ => ?hy3⟩) (fun _ => hHeld) (fun hcl3 => ?ry3)
          case hy3 => (simp only [List.getElem_toArray, List.getElem_cons_succ, List.getElem_cons_zero]; first | (go_simp; with_reducible rfl) | (go_simp; done) | rfl)
          simp only [List.getElem_toArray, List.getElem_cons_succ, List.getElem_cons_zero, Act.put, List.setIfInBounds_toArray, List.set_cons_zero, List.set_cons_succ]
          -- 3: Op.fieldAddr 80 (Operand.tmp 18) 0
          refine' anyZ_pure (i := 3) (v := _) rfl (by rfl) (by kernel_rfl) (by kernel_rfl) (by kernel_rfl) hcl3 (fun _ _ _ h => h) (Or.inl ⟨by rfl, fun w _ => ?hy4⟩) (fun _ => hHeld) (fun hcl4 => ?ry4)
          case hy4 => (simp only [List.getElem_toArray, List.getElem_cons_succ, List.getElem_cons_zero]; first | (go_simp; with_reducible rfl) | (go_simp; done) | rfl)
          simp only [List.getElem_toArray, List.getElem_cons_succ, List.getElem_cons_zero, Act.put, List.setIfInBounds_toArray, List.set_cons_zero, List.set_cons_succ]
          -- 4: Op.load 26 (Operand.tmp 19)
          refine' anyZ_take (i := 4) (v := _) rfl (by rfl) (by kernel_rfl) (by kernel_rfl) (by kernel_rfl) hcl4 10 (by kernel_rfl) (by kernel_rfl) (fun _ _ _ h => h) (Or.inl ⟨by rfl, fun w hSw => ?hy5⟩) hHeld (fun hcl5 => ?ry5)
          case hy5 => (simp only [List.getElem_toArray, List.getElem_cons_succ, List.getElem_cons_zero]; obtain ⟨hS0, hS1, hS2, hS3, hS4, hS5, hS6, hS7, hS8, hS9, hS10, hS11, hS12, hS13⟩ := hSw; first | (go_simp; with_reducible rfl) | (go_simp; done) | rfl)
          simp only [List.getElem_toArray, List.getElem_cons_succ, List.getElem_cons_zero, Act.put, List.setIfInBounds_toArray, List.set_cons_zero, List.set_cons_succ]
          -- 5: Op.move (Operand.tmp 1)
          refine' anyZ_pure (i := 5) (v := _) rfl (by rfl) (by kernel_rfl) (by kernel_rfl) (by kernel_rfl) hcl5 (fun _ _ _ h => h) (Or.inl ⟨by rfl, fun w _ => ?hy6⟩) (fun _ => hHeld) (fun hcl6 => ?ry6)
          case hy6 => (simp only [List.getElem_toArray, List.getElem_cons_succ, List.getElem_cons_zero]; first | (go_simp; with_reducible rfl) | (go_simp; done) | rfl)
          simp only [List.getElem_toArray, List.getElem_cons_succ, List.getElem_cons_zero, Act.put, List.setIfInBounds_toArray, List.set_cons_zero, List.set_cons_succ]
          -- 6: Op.move (Operand.tmp 5)
          refine' anyZ_pure (i := 6) (v := _) rfl (by rfl) (by kernel_rfl) (by kernel_rfl) (by kernel_rfl) hcl6 (fun _ _ _ h => h) (Or.inl ⟨by rfl, fun w _ => ?hy7⟩) (fun _ => hHeld) (fun hcl7 => ?ry7)
          case hy7 => (simp only [List.getElem_toArray, List.getElem_cons_succ, List.getElem_cons_zero]; first | (go_simp; with_reducible rfl) | (go_simp; done) | rfl)
          simp only [List.getElem_toArray, List.getElem_cons_succ, List.getElem_cons_zero, Act.put, List.setIfInBounds_toArray, List.set_cons_zero, List.set_cons_succ]
          -- 7: Op.indexAddr 37 (Operand.tmp 21) (Operand.tmp 22)
          refine' anyZ_pure (i := 7) (v := _) rfl (by rfl) (by kernel_rfl) (by kernel_rfl) (by kernel_rfl) hcl7 (fun _ _ _ h => h) (Or.inl ⟨by rfl, fun w _ => ?hy8⟩) (fun _ => hHeld) (fun hcl8 => ?ry8)
          case hy8 => (simp only [List.getElem_toArray, List.getElem_cons_succ, List.getElem_cons_zero]; first | (go_simp; with_reducible rfl) | (go_simp; done) | rfl)
          simp only [List.getElem_toArray, List.getElem_cons_succ, List.getElem_cons_zero, Act.put, List.setIfInBounds_toArray, List.set_cons_zero, List.set_cons_succ]
          -- 8: Op.fieldAddr 80 (Operand.tmp 23) 0
          refine' anyZ_pure (i := 8) (v := _) rfl (by rfl) (by kernel_rfl) (by kernel_rfl) (by kernel_rfl) hcl8 (fun _ _ _ h => h) (Or.inl ⟨by rfl, fun w _ => ?hy9⟩) (fun _ => hHeld) (fun hcl9 => ?ry9)
          case hy9 => (simp only [List.getElem_toArray, List.getElem_cons_succ, List.getElem_cons_zero]; first | (go_simp; with_reducible rfl) | (go_simp; done) | rfl)
          simp only [List.getElem_toArray, List.getElem_cons_succ, List.getElem_cons_zero, Act.put, List.setIfInBounds_toArray, List.set_cons_zero, List.set_cons_succ]
          -- 9: Op.load 26 (Operand.tmp 24)
          refine' anyZ_take (i := 9) (v := _) rfl (by rfl) (by kernel_rfl) (by kernel_rfl) (by kernel_rfl) hcl9 10 (by kernel_rfl) (by kernel_rfl) (fun _ _ _ h => h) (Or.inl ⟨by rfl, fun w hSw => ?hy10⟩) hHeld (fun hcl10 => ?ry10)
          case hy10 => (simp only [List.getElem_toArray, List.getElem_cons_succ, List.getElem_cons_zero]; obtain ⟨hS0, hS1, hS2, hS3, hS4, hS5, hS6, hS7, hS8, hS9, hS10, hS11, hS12, hS13⟩ := hSw; first | (go_simp; with_reducible rfl) | (go_simp; done) | rfl)
          simp only [List.getElem_toArray, List.getElem_cons_succ, List.getElem_cons_zero, Act.put, List.setIfInBounds_toArray, List.set_cons_zero, List.set_cons_succ]
          -- 10: Op.binOp BinOp.neq 26 (Operand.tmp 20) (Operand.tmp 25) 26
          refine' anyZ_pure (i := 10) (v := _) rfl (by rfl) (by kernel_rfl) (by kernel_rfl) (by kernel_rfl) hcl10 (fun _ _ _ h => h) (Or.inl ⟨by rfl, fun w _ => ?hy11⟩) (fun _ => hHeld) (fun hcl11 => ?ry11)
          case hy11 => (simp only [List.getElem_toArray, List.getElem_cons_succ, List.getElem_cons_zero]; first | (go_simp; with_reducible rfl) | (go_simp; done) | rfl)
          simp only [List.getElem_toArray, List.getElem_cons_succ, List.getElem_cons_zero, Act.put, List.setIfInBounds_toArray, List.set_cons_zero, List.set_cons_succ]
          -- 11: Op.move (Operand.tmp 26)
          refine' anyZ_pure (i := 11) (v := _) rfl (by rfl) (by kernel_rfl) (by kernel_rfl) (by kernel_rfl) hcl11 (fun _ _ _ h => h) (Or.inl ⟨by rfl, fun w _ => ?hy12⟩) (fun _ => hHeld) (fun hcl12 => ?ry12)
          case hy12 => (simp only [List.getElem_toArray, List.getElem_cons_succ, List.getElem_cons_zero]; first | (go_simp; with_reducible rfl) | (go_simp; done) | rfl)
          simp only [List.getElem_toArray, List.getElem_cons_succ, List.getElem_cons_zero, Act.put, List.setIfInBounds_toArray, List.set_cons_zero, List.set_cons_succ]
          -- 12: Op.move (Operand.tmp 0)
          refine' anyZ_pure (i := 12) (v := _) rfl (by rfl) (by kernel_rfl) (by kernel_rfl) (by kernel_rfl) hcl12 (fun _ _ _ h => h) (Or.inl ⟨by rfl, fun w _ => ?hy13⟩) (fun _ => hHeld) (fun hcl13 => ?ry13)
          case hy13 => (simp only [List.getElem_toArray, List.getElem_cons_succ, List.getElem_cons_zero]; first | (go_simp; with_reducible rfl) | (go_simp; done) | rfl)
          simp only [List.getElem_toArray, List.getElem_cons_succ, List.getElem_cons_zero, Act.put, List.setIfInBounds_toArray, List.set_cons_zero, List.set_cons_succ]
          -- 13: Op.move (Operand.tmp 5)
          refine' anyZ_pure (i := 13) (v := _) rfl (by rfl) (by kernel_rfl) (by kernel_rfl) (by kernel_rfl) hcl13 (fun _ _ _ h => h) (Or.inl ⟨by rfl, fun w _ => ?hy14⟩) (fun _ => hHeld) (fun hcl14 => ?ry14)
          case hy14 => (simp only [List.getElem_toArray, List.getElem_cons_succ, List.getElem_cons_zero]; first | (go_simp; with_reducible rfl) | (go_simp; done) | rfl)
          simp only [List.getElem_toArray, List.getElem_cons_succ, List.getElem_cons_zero, Act.put, List.setIfInBounds_toArray, List.set_cons_zero, List.set_cons_succ]
          -- 14: Op.indexAddr 37 (Operand.tmp 28) (Operand.tmp 29)
          refine' anyZ_pure (i := 14) (v := _) rfl (by rfl) (by kernel_rfl) (by kernel_rfl) (by kernel_rfl) hcl14 (fun _ _ _ h => h) (Or.inl ⟨by rfl, fun w _ => ?hy15⟩) (fun _ => hHeld) (fun hcl15 => ?ry15)
          case hy15 => (simp only [List.getElem_toArray, List.getElem_cons_succ, List.getElem_cons_zero]; first | (go_simp; with_reducible rfl) | (go_simp; done) | rfl)
          simp only [List.getElem_toArray, List.getElem_cons_succ, List.getElem_cons_zero, Act.put, List.setIfInBounds_toArray, List.set_cons_zero, List.set_cons_succ]
          -- 15: Op.fieldAddr 80 (Operand.tmp 30) 1
          refine' anyZ_pure (i := 15) (v := _) rfl (by rfl) (by kernel_rfl) (by kernel_rfl) (by kernel_rfl) hcl15 (fun _ _ _ h => h) (Or.inl ⟨by rfl, fun w _ => ?hy16⟩) (fun _ => hHeld) (fun hcl16 => ?ry16)
          case hy16 => (simp only [List.getElem_toArray, List.getElem_cons_succ, List.getElem_cons_zero]; first | (go_simp; with_reducible rfl) | (go_simp; done) | rfl)
          simp only [List.getElem_toArray, List.getElem_cons_succ, List.getElem_cons_zero, Act.put, List.setIfInBounds_toArray, List.set_cons_zero, List.set_cons_succ]
          -- 16: Op.load 29 (Operand.tmp 31)
          refine' anyZ_take (i := 16) (v := _) rfl (by rfl) (by kernel_rfl) (by kernel_rfl) (by kernel_rfl) hcl16 10 (by kernel_rfl) (by kernel_rfl) (fun _ _ _ h => h) (Or.inl ⟨by rfl, fun w hSw => ?hy17⟩) hHeld (fun hcl17 => ?ry17)
          case hy17 => (simp only [List.getElem_toArray, List.getElem_cons_succ, List.getElem_cons_zero]; obtain ⟨hS0, hS1, hS2, hS3, hS4, hS5, hS6, hS7, hS8, hS9, hS10, hS11, hS12, hS13⟩ := hSw; first | (go_simp; with_reducible rfl) | (go_simp; done) | rfl)
          simp only [List.getElem_toArray, List.getElem_cons_succ, List.getElem_cons_zero, Act.put, List.setIfInBounds_toArray, List.set_cons_zero, List.set_cons_succ]
          -- 17: Op.move (Operand.tmp 1)
          refine' anyZ_pure (i := 17) (v := _) rfl (by rfl) (by kernel_rfl) (by kernel_rfl) (by kernel_rfl) hcl17 (fun _ _ _ h => h) (Or.inl ⟨by rfl, fun w _ => ?hy18⟩) (fun _ => hHeld) (fun hcl18 => ?ry18)
          case hy18 => (simp only [List.getElem_toArray, List.getElem_cons_succ, List.getElem_cons_zero]; first | (go_simp; with_reducible rfl) | (go_simp; done) | rfl)
          simp only [List.getElem_toArray, List.getElem_cons_succ, List.getElem_cons_zero, Act.put, List.setIfInBounds_toArray, List.set_cons_zero, List.set_cons_succ]
          -- 18: Op.move (Operand.tmp 5)
          refine' anyZ_pure (i := 18) (v := _) rfl (by rfl) (by kernel_rfl) (by kernel_rfl) (by kernel_rfl) hcl18 (fun _ _ _ h => h) (Or.inl ⟨by rfl, fun w _ => ?hy19⟩) (fun _ => hHeld) (fun hcl19 => ?ry19)
          case hy19 => (simp only [List.getElem_toArray, List.getElem_cons_succ, List.getElem_cons_zero]; first | (go_simp; with_reducible rfl) | (go_simp; done) | rfl)
          simp only [List.getElem_toArray, List.getElem_cons_succ, List.getElem_cons_zero, Act.put, List.setIfInBounds_toArray, List.set_cons_zero, List.set_cons_succ]
          -- 19: Op.indexAddr 37 (Operand.tmp 33) (Operand.tmp 34)
          refine' anyZ_pure (i := 19) (v := _) rfl (by rfl) (by kernel_rfl) (by kernel_rfl) (by kernel_rfl) hcl19 (fun _ _ _ h => h) (Or.inl ⟨by rfl, fun w _ => ?hy20⟩) (fun _ => hHeld) (fun hcl20 => ?ry20)
          case hy20 => (simp only [List.getElem_toArray, List.getElem_cons_succ, List.getElem_cons_zero]; first | (go_simp; with_reducible rfl) | (go_simp; done) | rfl)
          simp only [List.getElem_toArray, List.getElem_cons_succ, List.getElem_cons_zero, Act.put, List.setIfInBounds_toArray, List.set_cons_zero, List.set_cons_succ]
          -- 20: Op.fieldAddr 80 (Operand.tmp 35) 1
          refine' anyZ_pure (i := 20) (v := _) rfl (by rfl) (by kernel_rfl) (by kernel_rfl) (by kernel_rfl) hcl20 (fun _ _ _ h => h) (Or.inl ⟨by rfl, fun w _ => ?hy21⟩) (fun _ => hHeld) (fun hcl21 => ?ry21)
          case hy21 => (simp only [List.getElem_toArray, List.getElem_cons_succ, List.getElem_cons_zero]; first | (go_simp; with_reducible rfl) | (go_simp; done) | rfl)
          simp only [List.getElem_toArray, List.getElem_cons_succ, List.getElem_cons_zero, Act.put, List.setIfInBounds_toArray, List.set_cons_zero, List.set_cons_succ]
          -- 21: Op.load 29 (Operand.tmp 36)
          refine' anyZ_take (i := 21) (v := _) rfl (by rfl) (by kernel_rfl) (by kernel_rfl) (by kernel_rfl) hcl21 10 (by kernel_rfl) (by kernel_rfl) (fun _ _ _ h => h) (Or.inl ⟨by rfl, fun w hSw => ?hy22⟩) hHeld (fun hcl22 => ?ry22)
          case hy22 => (simp only [List.getElem_toArray, List.getElem_cons_succ, List.getElem_cons_zero]; obtain ⟨hS0, hS1, hS2, hS3, hS4, hS5, hS6, hS7, hS8, hS9, hS10, hS11, hS12, hS13⟩ := hSw; first | (go_simp; with_reducible rfl) | (go_simp; done) | rfl)
          simp only [List.getElem_toArray, List.getElem_cons_succ, List.getElem_cons_zero, Act.put, List.setIfInBounds_toArray, List.set_cons_zero, List.set_cons_succ]
          clear hHeld
          refine anyZ_chain_at (by kernel_rfl) ?_
          simp only [List.drop_succ_cons, List.drop_zero]
          go_wp2_with fail
          refine (rsame_any _ _ pn qn _ ⟨_, rfl, (HKK.out.below (bdr (bre wr))).ids, HOK.out.1⟩ ⟨_, rfl, (HJK.out.below (bdr (bre wr))).ids, HOK.out.2⟩).mono ?_
          rintro e w5 ⟨rfl, hb5⟩
          have HB5 : Hid (Below w.heap.size w w5) := Lib.hid (hbl.out.trans ((btr (bdr (bre wr)) hb5).mono hbl.out.size))
          clear hb5
          cases hsm : ndSame pn qn with
          | true =>
            have HT1 : Hid (l.take (k + 1) = m.take (k + 1)) := Lib.hid (by rw [HTK.out.1, HTK.out.2, htk.out, hid, (ndSame_iff _ _).1 hsm])
            clear hsm htk hid
            go_wp2_with fail
            go_roundw
            case rel => exact ⟨k + 1, by omega, by go_num, HB5, HT1⟩
            case measure => simp [intOf]; omega
          | false =>
            have hRf := HNO.out (fun e => by
              have h9 : pn = qn := congrArg Prod.snd e
              have := (ndSame_iff pn qn).2 h9
              rw [hsm] at this
              cases this)
            subst hRf
            clear hsm htk hid
            go_wp2_with fail
            go_ret
            exact ⟨rfl, HB5.out⟩
        · have s1 : ((pk : Int) == (qk : Int)) = false := beq_false_of_ne (by omega)
          have s2 : ((pk : Int) != (qk : Int)) = true := by rw [bne, s1]; rfl
          have hRf := HNO.out (fun e => hid (congrArg Prod.fst e))
          subst hRf
          clear hid htk
          go_upto_region 6 with fail
          refine region_anyZ (z := 24) (S := fun w' => (w'.cell? ⟨g1, k * 7, none⟩ = some (.int .u64 (pk : Nat)) ∧ w'.cell? ⟨g1, k * 7 + 1, none⟩ = some (.int .u8 pn.kind) ∧ w'.cell? ⟨g1, k * 7 + 2, none⟩ = some (.string pn.name) ∧ w'.cell? ⟨g1, k * 7 + 3, none⟩ = some (.int .i64 pn.num) ∧ w'.cell? ⟨g1, k * 7 + 4, none⟩ = some (.int .u8 pn.typ) ∧ w'.cell? ⟨g1, k * 7 + 5, none⟩ = some (.int .u64 pn.ref) ∧ w'.cell? ⟨g1, k * 7 + 6, none⟩ = some (.slice ka PL kc) ∧ w'.cell? ⟨g2, k * 7, none⟩ = some (.int .u64 (qk : Nat)) ∧ w'.cell? ⟨g2, k * 7 + 1, none⟩ = some (.int .u8 qn.kind) ∧ w'.cell? ⟨g2, k * 7 + 2, none⟩ = some (.string qn.name) ∧ w'.cell? ⟨g2, k * 7 + 3, none⟩ = some (.int .i64 qn.num) ∧ w'.cell? ⟨g2, k * 7 + 4, none⟩ = some (.int .u8 qn.typ) ∧ w'.cell? ⟨g2, k * 7 + 5, none⟩ = some (.int .u64 qn.ref) ∧ w'.cell? ⟨g2, k * 7 + 6, none⟩ = some (.slice ja QL jc))) (by kernel_rfl) ?_
          refine anyZ_begin (fun hcl0 => ?_)
          refine anyZ_held (by exact HSB.out _ (bdr (bre wr))) (fun hHeld => ?_)
          -- 0: Op.move (Operand.tmp 0)
          refine' anyZ_pure (i := 0) (v := _) rfl (by rfl) (by kernel_rfl) (by kernel_rfl) (by kernel_rfl) hcl0 (fun _ _ _ h => h) (Or.inl ⟨by rfl, fun w _ => ?hz1⟩) (fun _ => hHeld) (fun hcl1 => ?rz1)
          case hz1 => (simp only [List.getElem_toArray, List.getElem_cons_zero]; first | (go_simp; with_reducible rfl) | (go_simp; done) | rfl)
          simp only [List.getElem_toArray, List.getElem_cons_zero, Act.put, List.setIfInBounds_toArray, List.set_cons_zero, List.set_cons_succ]
          -- 1: Op.move (Operand.tmp 5)
          refine' anyZ_pure (i := 1) (v := _) rfl (by rfl) (by kernel_rfl) (by kernel_rfl) (by kernel_rfl) hcl1 (fun _ _ _ h => h) (Or.inl ⟨by rfl, fun w _ => ?hz2⟩) (fun _ => hHeld) (fun hcl2 => ?rz2)
          case hz2 => (simp only [List.getElem_toArray, List.getElem_cons_succ, List.getElem_cons_zero]; first | (go_simp; with_reducible rfl) | (go_simp; done) | rfl)
          simp only [List.getElem_toArray, List.getElem_cons_succ, List.getElem_cons_zero, Act.put, List.setIfInBounds_toArray, List.set_cons_zero, List.set_cons_succ]
          -- 2: Op.indexAddr 37 (Operand.tmp 16) (Operand.tmp 17)
          refine' anyZ_pure (i := 2) (v := _) rfl (by rfl) (by kernel_rfl) (by kernel_rfl) (by kernel_rfl) hcl2 (fun _ _ _ h => h) (Or.inl ⟨by rfl, fun w _ => ?hz3⟩) (fun _ => hHeld) (fun hcl3 => ?rz3)
          case hz3 => (simp only [List.getElem_toArray, List.getElem_cons_succ, List.getElem_cons_zero]; first | (go_simp; with_reducible rfl) | (go_simp; done) | rfl)
          simp only [List.getElem_toArray, List.getElem_cons_succ, List.getElem_cons_zero, Act.put, List.setIfInBounds_toArray, List.set_cons_zero, List.set_cons_succ]
          -- 3: Op.fieldAddr 80 (Operand.tmp 18) 0
          refine' anyZ_pure (i := 3) (v := _) rfl (by rfl) (by kernel_rfl) (by kernel_rfl) (by kernel_rfl) hcl3 (fun _ _ _ h => h) (Or.inl ⟨by rfl, fun w _ => ?hz4⟩) (fun _ => hHeld) (fun hcl4 => ?rz4)
          case hz4 => (simp only [List.getElem_toArray, List.getElem_cons_succ, List.getElem_cons_zero]; first | (go_simp; with_reducible rfl) | (go_simp; done) | rfl)
          simp only [List.getElem_toArray, List.getElem_cons_succ, List.getElem_cons_zero, Act.put, List.setIfInBounds_toArray, List.set_cons_zero, List.set_cons_succ]
          -- 4: Op.load 26 (Operand.tmp 19)
          refine' anyZ_take (i := 4) (v := _) rfl (by rfl) (by kernel_rfl) (by kernel_rfl) (by kernel_rfl) hcl4 10 (by kernel_rfl) (by kernel_rfl) (fun _ _ _ h => h) (Or.inl ⟨by rfl, fun w hSw => ?hz5⟩) hHeld (fun hcl5 => ?rz5)
          case hz5 => (simp only [List.getElem_toArray, List.getElem_cons_succ, List.getElem_cons_zero]; obtain ⟨hS0, hS1, hS2, hS3, hS4, hS5, hS6, hS7, hS8, hS9, hS10, hS11, hS12, hS13⟩ := hSw; first | (go_simp; with_reducible rfl) | (go_simp; done) | rfl)
          simp only [List.getElem_toArray, List.getElem_cons_succ, List.getElem_cons_zero, Act.put, List.setIfInBounds_toArray, List.set_cons_zero, List.set_cons_succ]
          -- 5: Op.move (Operand.tmp 1)
          refine' anyZ_pure (i := 5) (v := _) rfl (by rfl) (by kernel_rfl) (by kernel_rfl) (by kernel_rfl) hcl5 (fun _ _ _ h => h) (Or.inl ⟨by rfl, fun w _ => ?hz6⟩) (fun _ => hHeld) (fun hcl6 => ?rz6)
          case hz6 => (simp only [List.getElem_toArray, List.getElem_cons_succ, List.getElem_cons_zero]; first | (go_simp; with_reducible rfl) | (go_simp; done) | rfl)
          simp only [List.getElem_toArray, List.getElem_cons_succ, List.getElem_cons_zero, Act.put, List.setIfInBounds_toArray, List.set_cons_zero, List.set_cons_succ]
          -- 6: Op.move (Operand.tmp 5)
          refine' anyZ_pure (i := 6) (v := _) rfl (by rfl) (by kernel_rfl) (by kernel_rfl) (by kernel_rfl) hcl6 (fun _ _ _ h => h) (Or.inl ⟨by rfl, fun w _ => ?hz7⟩) (fun _ => hHeld) (fun hcl7 => ?rz7)
          case hz7 => (simp only [List.getElem_toArray, List.getElem_cons_succ, List.getElem_cons_zero]; first | (go_simp; with_reducible rfl) | (go_simp; done) | rfl)
          simp only [List.getElem_toArray, List.getElem_cons_succ, List.getElem_cons_zero, Act.put, List.setIfInBounds_toArray, List.set_cons_zero, List.set_cons_succ]
          -- 7: Op.indexAddr 37 (Operand.tmp 21) (Operand.tmp 22)
          refine' anyZ_pure (i := 7) (v := _) rfl (by rfl) (by kernel_rfl) (by kernel_rfl) (by kernel_rfl) hcl7 (fun _ _ _ h => h) (Or.inl ⟨by rfl, fun w _ => ?hz8⟩) (fun _ => hHeld) (fun hcl8 => ?rz8)
          case hz8 => (simp only [List.getElem_toArray, List.getElem_cons_succ, List.getElem_cons_zero]; first | (go_simp; with_reducible rfl) | (go_simp; done) | rfl)
          simp only [List.getElem_toArray, List.getElem_cons_succ, List.getElem_cons_zero, Act.put, List.setIfInBounds_toArray, List.set_cons_zero, List.set_cons_succ]
          -- 8: Op.fieldAddr 80 (Operand.tmp 23) 0
          refine' anyZ_pure (i := 8) (v := _) rfl (by rfl) (by kernel_rfl) (by kernel_rfl) (by kernel_rfl) hcl8 (fun _ _ _ h => h) (Or.inl ⟨by rfl, fun w _ => ?hz9⟩) (fun _ => hHeld) (fun hcl9 => ?rz9)
          case hz9 => (simp only [List.getElem_toArray, List.getElem_cons_succ, List.getElem_cons_zero]; first | (go_simp; with_reducible rfl) | (go_simp; done) | rfl)
          simp only [List.getElem_toArray, List.getElem_cons_succ, List.getElem_cons_zero, Act.put, List.setIfInBounds_toArray, List.set_cons_zero, List.set_cons_succ]
          -- 9: Op.load 26 (Operand.tmp 24)
          refine' anyZ_take (i := 9) (v := _) rfl (by rfl) (by kernel_rfl) (by kernel_rfl) (by kernel_rfl) hcl9 10 (by kernel_rfl) (by kernel_rfl) (fun _ _ _ h => h) (Or.inl ⟨by rfl, fun w hSw => ?hz10⟩) hHeld (fun hcl10 => ?rz10)
          case hz10 => (simp only [List.getElem_toArray, List.getElem_cons_succ, List.getElem_cons_zero]; obtain ⟨hS0, hS1, hS2, hS3, hS4, hS5, hS6, hS7, hS8, hS9, hS10, hS11, hS12, hS13⟩ := hSw; first | (go_simp; with_reducible rfl) | (go_simp; done) | rfl)
          simp only [List.getElem_toArray, List.getElem_cons_succ, List.getElem_cons_zero, Act.put, List.setIfInBounds_toArray, List.set_cons_zero, List.set_cons_succ]
          -- 10: Op.binOp BinOp.neq 26 (Operand.tmp 20) (Operand.tmp 25) 26
          refine' anyZ_pure (i := 10) (v := _) rfl (by rfl) (by kernel_rfl) (by kernel_rfl) (by kernel_rfl) hcl10 (fun _ _ _ h => h) (Or.inl ⟨by rfl, fun w _ => ?hz11⟩) (fun _ => hHeld) (fun hcl11 => ?rz11)
          case hz11 => (simp only [List.getElem_toArray, List.getElem_cons_succ, List.getElem_cons_zero]; first | (go_simp; with_reducible rfl) | (go_simp; done) | rfl)
          simp only [List.getElem_toArray, List.getElem_cons_succ, List.getElem_cons_zero, Act.put, List.setIfInBounds_toArray, List.set_cons_zero, List.set_cons_succ]
          -- 11: Op.move (Operand.tmp 26)
          refine' anyZ_pure (i := 11) (v := _) rfl (by rfl) (by kernel_rfl) (by kernel_rfl) (by kernel_rfl) hcl11 (fun _ _ _ h => h) (Or.inl ⟨by rfl, fun w _ => ?hz12⟩) (fun _ => hHeld) (fun hcl12 => ?rz12)
          case hz12 => (simp only [List.getElem_toArray, List.getElem_cons_succ, List.getElem_cons_zero]; first | (go_simp; with_reducible rfl) | (go_simp; done) | rfl)
          simp only [List.getElem_toArray, List.getElem_cons_succ, List.getElem_cons_zero, Act.put, List.setIfInBounds_toArray, List.set_cons_zero, List.set_cons_succ]
          -- 12 (not wanted): Op.move (Operand.tmp 0)
          refine' anyZ_pure (i := 12) (v := undef) rfl (by rfl) (by kernel_rfl) (by kernel_rfl) (by kernel_rfl) hcl12 (fun _ _ _ h => h) (Or.inr ⟨by rfl, rfl⟩) (fun _ => hHeld) (fun hcl13 => ?rz13)
          simp only [Act.put, List.setIfInBounds_toArray, List.set_cons_zero, List.set_cons_succ]
          -- 13 (not wanted): Op.move (Operand.tmp 5)
          refine' anyZ_pure (i := 13) (v := undef) rfl (by rfl) (by kernel_rfl) (by kernel_rfl) (by kernel_rfl) hcl13 (fun _ _ _ h => h) (Or.inr ⟨by rfl, rfl⟩) (fun _ => hHeld) (fun hcl14 => ?rz14)
          simp only [Act.put, List.setIfInBounds_toArray, List.set_cons_zero, List.set_cons_succ]
          -- 14 (not wanted): Op.indexAddr 37 (Operand.tmp 28) (Operand.tmp 29)
          refine' anyZ_pure (i := 14) (v := undef) rfl (by rfl) (by kernel_rfl) (by kernel_rfl) (by kernel_rfl) hcl14 (fun _ _ _ h => h) (Or.inr ⟨by rfl, rfl⟩) (fun _ => hHeld) (fun hcl15 => ?rz15)
          simp only [Act.put, List.setIfInBounds_toArray, List.set_cons_zero, List.set_cons_succ]
          -- 15 (not wanted): Op.fieldAddr 80 (Operand.tmp 30) 1
          refine' anyZ_pure (i := 15) (v := undef) rfl (by rfl) (by kernel_rfl) (by kernel_rfl) (by kernel_rfl) hcl15 (fun _ _ _ h => h) (Or.inr ⟨by rfl, rfl⟩) (fun _ => hHeld) (fun hcl16 => ?rz16)
          simp only [Act.put, List.setIfInBounds_toArray, List.set_cons_zero, List.set_cons_succ]
          -- 16 (not wanted): Op.load 29 (Operand.tmp 31)
          refine' anyZ_pure (i := 16) (v := undef) rfl (by rfl) (by kernel_rfl) (by kernel_rfl) (by kernel_rfl) hcl16 (fun _ _ _ h => h) (Or.inr ⟨by rfl, rfl⟩) (fun _ => hHeld) (fun hcl17 => ?rz17)
          simp only [Act.put, List.setIfInBounds_toArray, List.set_cons_zero, List.set_cons_succ]
          -- 17 (not wanted): Op.move (Operand.tmp 1)
          refine' anyZ_pure (i := 17) (v := undef) rfl (by rfl) (by kernel_rfl) (by kernel_rfl) (by kernel_rfl) hcl17 (fun _ _ _ h => h) (Or.inr ⟨by rfl, rfl⟩) (fun _ => hHeld) (fun hcl18 => ?rz18)
          simp only [Act.put, List.setIfInBounds_toArray, List.set_cons_zero, List.set_cons_succ]
          -- 18 (not wanted): Op.move (Operand.tmp 5)
          refine anyZ_oneSkip (i := 18) hcl18 (by kernel_rfl) (by simp only [List.getElem?_toArray, List.getElem?_cons_succ, List.getElem?_cons_zero]; rfl) (by kernel_rfl) (fun _ => hHeld) (fun hcl19 => ?_)
          simp only [Act.put, List.setIfInBounds_toArray, List.set_cons_zero, List.set_cons_succ]
          -- 19 (not wanted): Op.indexAddr 37 (Operand.tmp 33) (Operand.tmp 34)
          refine anyZ_oneSkip (i := 19) hcl19 (by kernel_rfl) (by simp only [List.getElem?_toArray, List.getElem?_cons_succ, List.getElem?_cons_zero]; rfl) (by kernel_rfl) (fun _ => hHeld) (fun hcl20 => ?_)
          simp only [Act.put, List.setIfInBounds_toArray, List.set_cons_zero, List.set_cons_succ]
          -- 20 (not wanted): Op.fieldAddr 80 (Operand.tmp 35) 1
          refine anyZ_oneSkip (i := 20) hcl20 (by kernel_rfl) (by simp only [List.getElem?_toArray, List.getElem?_cons_succ, List.getElem?_cons_zero]; rfl) (by kernel_rfl) (fun _ => hHeld) (fun hcl21 => ?_)
          simp only [Act.put, List.setIfInBounds_toArray, List.set_cons_zero, List.set_cons_succ]
          -- 21 (not wanted): Op.load 29 (Operand.tmp 36)
          refine anyZ_oneSkip (i := 21) hcl21 (by kernel_rfl) (by simp only [List.getElem?_toArray, List.getElem?_cons_succ, List.getElem?_cons_zero]; rfl) (by kernel_rfl) (fun _ => hHeld) (fun hcl22 => ?_)
          simp only [Act.put, List.setIfInBounds_toArray, List.set_cons_zero, List.set_cons_succ]
          -- 22 (not wanted): Op.call { callee := Callee.value (Operand.func 21), args := 
          refine anyZ_oneSkip (i := 22) hcl22 (by kernel_rfl) (by simp only [List.getElem?_toArray, List.getElem?_cons_succ, List.getElem?_cons_zero]; rfl) (by kernel_rfl) (fun _ => hHeld) (fun hcl23 => ?_)
          simp only [Act.put, List.setIfInBounds_toArray, List.set_cons_zero, List.set_cons_succ]
          -- 23 (not wanted): Op.unOp UnOp.not 4 (Operand.tmp 38)
          refine anyZ_oneSkip (i := 23) hcl23 (by kernel_rfl) (by simp only [List.getElem?_toArray, List.getElem?_cons_succ, List.getElem?_cons_zero]; rfl) (by kernel_rfl) (fun _ => hHeld) (fun hcl24 => ?_)
          simp only [Act.put, List.setIfInBounds_toArray, List.set_cons_zero, List.set_cons_succ]
          clear hHeld
          refine anyZ_chain_at (by kernel_rfl) ?_
          simp only [List.drop_succ_cons, List.drop_zero]
          go_wp2_with fail
          go_ret
          exact ⟨rfl, bdr hbl.out⟩
      · have d1 : decide ((k : Int) < (L : Int)) = false := decide_eq_false (by omega)
        have d1n : decide (k < L) = false := decide_eq_false hlt
        have hek : l = m := by
          have h1 := htk.out
          rwa [List.take_of_length_le (by rw [← HL.out]; omega), List.take_of_length_le (by rw [← HM.out]; omega)] at h1
        have hRt : R = true := HRES.out.2 hek
        subst hRt
        clear hek htk
        go_wp2_with fail
        go_ret
        exact ⟨rfl, hbl.out⟩
  · have q1 : ((L : Int) == (M : Int)) = false := beq_false_of_ne (by omega)
    have q2 : ((L : Int) != (M : Int)) = true := by rw [bne, q1]; rfl
    have q3 : ¬ (L : Int) = (M : Int) := by omega
    have hRf : R = false := by
      cases hRb : R with
      | false => rfl
      | true => exact absurd (by rw [HL.out, HM.out, HRES.out.1 hRb]) hlm
    subst hRf
    go_enter Try.func19, Try.ntmps19
    go_wp2_with fail
    go_ret
    exact ⟨rfl, bre _⟩
end Go.Proofs.Ytnbncjebmlicgaa
