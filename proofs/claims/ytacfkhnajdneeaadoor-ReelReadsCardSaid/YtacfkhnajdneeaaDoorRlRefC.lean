/- Walk of the reference: a log is read of raw sectors. -/
import Derived.Test.YtacfkhnajdneeaaDoorRlTold
import Derived.Test.YtacfkhnajdneeaaDoorRParse
namespace Go.Proofs.YtacfkhnajdneeaaDoor
open Go.RowKit

theorem been_drop {xs : List (List UInt8)} {k : Nat} (hk : k < xs.length) : xs.drop k = xs[k] :: xs.drop (k + 1) := List.drop_eq_getElem_cons hk
section
variable {gen k a : Nat} {xs : List (List UInt8)} {b : List UInt8} {P : List UInt8} {so : List Nat}
theorem beenX_end (h : Been gen xs xs.length a P so) : scanR gen 0 0 xs = (none, P, so) := by
  unfold Been at h
  rw [List.drop_length, scanR] at h
  simpa using h
theorem beenX_bad (h : Been gen xs k a P so) (hd : xs.drop k = b :: xs.drop (k + 1)) (h1 : (parseOf b).1 ≠ 0) (h2 : (parseOf b).1 ≠ 3) : scanR gen 0 0 xs = (some k, P, so) := by
  unfold Been at h
  rw [hd, scanR, if_pos ⟨h1, h2⟩] at h
  simpa using h
theorem beenX_stop (h : Been gen xs k a P so) (hd : xs.drop k = b :: xs.drop (k + 1)) (h1 : (parseOf b).1 = 0 ∨ (parseOf b).1 = 3) (h2 : (parseOf b).1 ≠ 0 ∨ followsB gen k a (parseOf b).2 = false) : scanR gen 0 0 xs = (none, P, so) := by
  unfold Been at h
  rw [hd, scanR, if_neg (fun hh => by rcases h1 with e | e; exact hh.1 e; exact hh.2 e), if_pos h2] at h
  simpa using h
theorem beenX_last (h : Been gen xs k a P so) (hd : xs.drop k = b :: xs.drop (k + 1)) (h1 : (parseOf b).1 = 0) (h2 : followsB gen k a (parseOf b).2 = true) (h3 : (parseOf b).2.data.length < 491) :
    scanR gen 0 0 xs = (none, P ++ (parseOf b).2.data.drop 4, so ++ [(parseOf b).2.serial]) := by
  unfold Been at h
  rw [hd, scanR, if_neg (fun hh => hh.1 h1), if_neg (fun hh => by
    rcases hh with e | e
    · exact e h1
    · rw [h2] at e; cases e), if_pos h3] at h
  simpa using h
theorem beenX_on (h : Been gen xs k a P so) (hd : xs.drop k = b :: xs.drop (k + 1)) (h1 : (parseOf b).1 = 0) (h2 : followsB gen k a (parseOf b).2 = true) (h3 : ¬ (parseOf b).2.data.length < 491) :
    Been gen xs (k + 1) (parseOf b).2.serial (P ++ (parseOf b).2.data.drop 4) (so ++ [(parseOf b).2.serial]) := by
  unfold Been at h ⊢
  rw [hd, scanR, if_neg (fun hh => hh.1 h1), if_neg (fun hh => by
    rcases hh with e | e
    · exact e h1
    · rw [h2] at e; cases e), if_neg h3] at h
  rw [h]
  simp
end

theorem val_four {l : List UInt8} (h : l.length = 4) : be4 (val l) = l := by
  match l, h with
  | [x, y, z, t], _ =>
    have hx := x.toNat_lt
    have hy := y.toNat_lt
    have hz := z.toNat_lt
    have ht := t.toNat_lt
    show be4 (256 * (256 * (256 * (256 * 0 + x.toNat) + y.toNat) + z.toNat) + t.toNat) = _
    unfold be4
    have e1 : (256 * (256 * (256 * (256 * 0 + x.toNat) + y.toNat) + z.toNat) + t.toNat) / 16777216 % 256 = x.toNat := by omega
    have e2 : (256 * (256 * (256 * (256 * 0 + x.toNat) + y.toNat) + z.toNat) + t.toNat) / 65536 % 256 = y.toNat := by omega
    have e3 : (256 * (256 * (256 * (256 * 0 + x.toNat) + y.toNat) + z.toNat) + t.toNat) / 256 % 256 = z.toNat := by omega
    have e4 : (256 * (256 * (256 * (256 * 0 + x.toNat) + y.toNat) + z.toNat) + t.toNat) % 256 = t.toNat := by omega
    rw [e1, e2, e3, e4]
    simp
theorem follows_val (gen k a : Nat) (p : Pg) (ha : a < 4294967296) : followsB gen k a p = true ↔ p.gen = gen ∧ p.kind = 1 ∧ p.number = k ∧ 4 ≤ p.data.length ∧ val (p.data.take 4) = a := by
  unfold followsB
  simp only [Bool.and_eq_true, decide_eq_true_eq]
  constructor
  · rintro ⟨⟨⟨h1, h2⟩, h3⟩, h4⟩
    have hl := congrArg List.length h4
    rw [List.length_take, be4_len] at hl
    exact ⟨h1, h2, h3, by omega, by rw [h4, val_be4 a ha]⟩
  · rintro ⟨h1, h2, h3, h4, h5⟩
    refine ⟨⟨⟨h1, h2⟩, h3⟩, ?_⟩
    rw [← h5, val_four (by rw [List.length_take]; omega)]

theorem neB (a b : Nat) : ((a : Int) != (b : Int)) = !decide (a = b) ∧ (a != b) = !decide (a = b) := by
  obtain ⟨h1, -, h3⟩ := eqB a b
  exact ⟨by unfold bne; rw [h1], by unfold bne; rw [h3]⟩

set_option maxRecDepth 20000 in
set_option maxHeartbeats 3200000 in
theorem rfopen_any (v : Value) (xs : List (List UInt8)) (gen : Nat) (w : World) (hv : Rows8 w v xs) (hx : xs.length ≤ 5000) :
    Calls Tryd.prog 33 #[v, .int .u32 gen] w fun e w' => ∃ (s : Option Nat) (P : List UInt8) (so : List Nat), scanR gen 0 0 xs = (s, P, so) ∧ Below w.heap.size w w' ∧
      (∀ i, s = some i → e = .returned (.tuple #[.slice none 0 0, .int .i64 i])) ∧ (s = none → ∃ v', e = .returned (.tuple #[v', .int .i64 (-1)]) ∧ RecsAt w.heap.size w' v' (cutL P)) := by
  obtain ⟨av, cv, rfl, hm, hc, -, hrow⟩ := id hv
  have HR := Lib.hid hrow
  obtain ⟨L, hL⟩ : ∃ L, L = xs.length := ⟨_, rfl⟩
  rw [← hL] at hm hc hx ⊢
  have HL := Lib.hid hL
  have HB0 := Lib.hid (been_start gen xs)
  clear hv hrow hL
  go_enter Tryd.func33, Tryd.ntmps33
  go_upto_block 0 with fail
  go_cut [6, 7] from 8 to 73 (fun vp _ wx => ∃ (P : List UInt8) (so : List Nat), Hid (scanR gen 0 0 xs = (none, P, so)) ∧ P.length ≤ 487 * L ∧ Hid (Own8 5 w.heap.size wx vp P) ∧ Hid (Below w.heap.size w wx))
  case first =>
    go_wp2_with fail
    go_loopw [6, 7, 16] (fun vp va i wr => ∃ (k a : Nat) (P : List UInt8) (so : List Nat), k ≤ L ∧ i = .int .i64 k ∧ va = .int .u32 a ∧ a < 4294967296 ∧ P.length ≤ 487 * k ∧ Hid (Been gen xs k a P so) ∧ Hid (Own8 5 w.heap.size wr vp P) ∧ Hid (Below w.heap.size w wr)) (fun _ _ i _ => L - (intOf i).toNat)
    case atStart => exact ⟨0, 0, [], [], by omega, rfl, rfl, by omega, by simp, HB0, Lib.hid (Own8.nil _ _ _), Lib.hid (bre w)⟩
    case round =>
      obtain ⟨k, a, P, so, hk, rfl, rfl, ha, hP, hbeen, hown, hb⟩ := hrel
      by_cases hlt : k < L
      · have hkl : k < xs.length := by rw [← HL.out]; exact hlt
        rcases HR.out with h0 | ⟨gb, ob, rfl, hcell⟩
        · rw [h0] at hkl; simp at hkl
        obtain ⟨u, hu, hbu⟩ := hcell k _ (List.getElem?_eq_getElem hkl)
        have hu' := (hb.out.cell (p := ⟨gb, ob + k, none⟩) (block_lt_of_cell hu)).trans hu
        have HU := Lib.hid (hbu.below hb.out)
        obtain ⟨au, cu, rfl, -, -, -, -⟩ := id hbu
        have HDR := Lib.hid (been_drop hkl)
        have d1 : decide ((k : Int) < (L : Int)) = true := decide_eq_true (by omega)
        have d1n : decide (k < L) = true := decide_eq_true hlt
        generalize xs[k] = b at *
        clear hcell hu hbu hkl
        go_wp2_with fail
        refine (rparse_any _ b wr HU.out).mono ?_
        rintro e w4 ⟨v4, rfl, ho4, hb4⟩
        have hpg := parse_good b
        obtain ⟨p, hp⟩ : ∃ p, p = (parseOf b).2 := ⟨_, rfl⟩
        obtain ⟨E, hE⟩ : ∃ E, E = (parseOf b).1 := ⟨_, rfl⟩
        rw [← hp] at ho4 hpg
        have HP := Lib.hid hp
        have HE := Lib.hid hE
        have hroom : p.data.length ≤ 491 := by rw [hp]; exact parse_room b
        rw [← hp, ← hE]
        have HOW4 := Lib.hid (Own8.kept hown.out (Nat.le_refl _) hb4)
        have HB4 := Lib.hid (btr hb.out hb4)
        have HY4 := Lib.hid ho4.bytes
        have HPG := Lib.hid hpg
        obtain ⟨a4, c4, rfl, -, -, -, -⟩ := id ho4.bytes
        unfold PgVal
        obtain ⟨L4, hL4⟩ : ∃ L, L = p.data.length := ⟨_, rfl⟩
        rw [← hL4] at HY4 hroom ⊢
        have HL4 := Lib.hid hL4
        clear hp hE ho4 hb4 hown hb hpg hL4 HU hu'
        go_upto_region 7 with fail
        have hb5 := bal (bre w4) (.cells #[.int .u32 p.gen, .int .u32 p.serial, .int .u32 p.number, .int .u8 p.kind, .slice a4 L4 c4] 66)
        have hq5 := heap_alloc_new w4 (.cells #[.int .u32 p.gen, .int .u32 p.serial, .int .u32 p.number, .int .u8 p.kind, .slice a4 L4 c4] 66)
        generalize w4.alloc (.cells #[.int .u32 p.gen, .int .u32 p.serial, .int .u32 p.number, .int .u8 p.kind, .slice a4 L4 c4] 66) = w5 at *
        obtain ⟨n5, hn5⟩ : ∃ n, n = w4.heap.size := ⟨_, rfl⟩
        rw [← hn5] at hq5 ⊢
        have HOW5 := Lib.hid (Own8.kept HOW4.out (Nat.le_refl _) hb5)
        have HB5 := Lib.hid (btr HB4.out hb5)
        have HY5 := Lib.hid (HY4.out.below hb5)
        have HQ5 := Lib.hid hq5
        have HN5 : Hid (w.heap.size ≤ n5) := Lib.hid (by rw [hn5]; exact HB4.out.size)
        clear hb5 hq5 hn5 HOW4 HB4 HY4
        by_cases hE3 : E = 3
        · have e1 : (E == 3) = true := by rw [hE3]; rfl
          have e2 : decide (E = 3) = true := decide_eq_true hE3
          have HS : Hid (scanR gen 0 0 xs = (none, P, so)) := Lib.hid (beenX_stop hbeen.out HDR.out (.inr (by rw [← HE.out]; exact hE3)) (.inl (by rw [← HE.out, hE3]; decide)))
          clear hE3
          go_wp2_with fail
          go_meet
          case rel => exact ⟨P, so, HS, by omega, HOW5, HB5⟩
        · by_cases hE0 : E = 0
          · have e1 : (E == 3) = false := by rw [hE0]; rfl
            have e2 : decide (E = 3) = false := decide_eq_false hE3
            have e3 : (E != 0) = false := by rw [hE0]; rfl
            have e4 : decide (E = 0) = true := decide_eq_true hE0
            have e5 : (E == 0) = true := by rw [hE0]; rfl
            have HE0 : Hid ((parseOf b).1 = 0) := Lib.hid (by rw [← HE.out]; exact hE0)
            have y0 := cell_of_row w5 n5 0 _ _ _ HQ5.out
            have y1 := cell_of_row w5 n5 1 _ _ _ HQ5.out
            have y2 := cell_of_row w5 n5 2 _ _ _ HQ5.out
            have y3 := cell_of_row w5 n5 3 _ _ _ HQ5.out
            have y4 := cell_of_row w5 n5 4 _ _ _ HQ5.out
            have hstop : ¬ (p.gen = gen ∧ p.kind = 1 ∧ p.number = k ∧ 4 ≤ p.data.length ∧ val (p.data.take 4) = a) → scanR gen 0 0 xs = (none, P, so) := fun hno => beenX_stop hbeen.out HDR.out (.inl HE0.out) (.inr (by
              rw [← HP.out]
              cases hf : followsB gen k a p with
              | false => rfl
              | true => exact absurd ((follows_val gen k a p ha).1 hf) hno))
            have HST := Lib.hid hstop
            have hpn := HPG.out.number
            have hwn : IntKind.i64.wrap (p.number : Int) = (p.number : Int) := by rw [IntKind.wrap_i64]; omega
            have hwa : IntKind.u64.wrap (a : Int) = (a : Int) := by simp [IntKind.wrap, IntKind.signed, IntKind.bits]; omega
            obtain ⟨f1, f2⟩ := neB p.gen gen
            obtain ⟨f3, f4⟩ := neB p.kind 1
            rw [show ((1 : Nat) : Int) = 1 from rfl] at f3
            obtain ⟨f5, f6⟩ := neB p.number k
            clear hE0 hE3 hstop
            by_cases c1 : p.gen = gen
            · rw [decide_eq_true c1] at f1 f2
              by_cases c2 : p.kind = 1
              · rw [decide_eq_true c2] at f3 f4
                by_cases c3 : p.number = k
                · rw [decide_eq_true c3] at f5 f6
                  by_cases c4' : 4 ≤ L4
                  · have d5 : decide ((L4 : Int) < 4) = false := decide_eq_false (by omega)
                    have d5n : decide (L4 < 4) = false := decide_eq_false (by omega)
                    have hf4 := SliceOf.firsts HY5.out 4 (by rw [← HL4.out]; exact c4')
                    have hl44 : L4 ≤ c4 := by
                      obtain ⟨a', c', e, -, h2, -⟩ := HY5.out
                      rw [← HL4.out] at e h2
                      cases e
                      exact h2
                    have h4c : 4 ≤ c4 := by omega
                    have HF4 := Lib.hid hf4
                    obtain ⟨VV, hVV⟩ : ∃ x, x = val (p.data.take 4) := ⟨_, rfl⟩
                    have HVV := Lib.hid hVV
                    obtain ⟨g1, g2⟩ := neB VV a
                    have HC3 := Lib.hid (And.intro c1 (And.intro c2 c3))
                    clear hf4 hl44 hVV c1 c2 c3
                    go_wp2_with fail
                    refine (rvalue_any _ (p.data.take 4) w5 HF4.out (by rw [List.length_take]; omega)).mono ?_
                    rintro e w6 ⟨rfl, hw⟩
                    have hw' := hw.symm
                    subst hw'
                    clear hw
                    rw [← HVV.out]
                    by_cases c5 : VV = a
                    · rw [decide_eq_true c5] at g1 g2
                      have HFOL : Hid (followsB gen k a p = true) := Lib.hid ((follows_val gen k a p ha).2 ⟨HC3.out.1, HC3.out.2.1, HC3.out.2.2, by rw [← HL4.out]; exact c4', by rw [← HVV.out]; exact c5⟩)
                      clear c5
                      go_upto_region 11 with fail
                      clear f1 f2 f3 f4 f5 f6 e1 e2 e3 e4 e5 d5 d5n g1 g2 hwn hwa y0 y1 y2 y3 y4 h4c
                      obtain ⟨A7, N7, C7, s7, zz7, hN7⟩ := run_suffix HY5.out 4 23 5 (by rw [← HL4.out]; exact c4') row8
                      have ZZ7 := Lib.hid zz7
                      clear zz7 hN7
                      rw [show ((4 : Nat) : Int) = 4 from rfl] at s7
                      have HOW8 := Lib.hid (Own8.kept HOW5.out (Nat.le_refl _) (bdr (bre w5)))
                      have HQ8 : Hid (w5.drew.heap[n5]? = some (.cells #[.int .u32 p.gen, .int .u32 p.serial, .int .u32 p.number, .int .u8 p.kind, .slice a4 L4 c4] 66 (0, 0))) := Lib.hid HQ5.out
                      have HZ8 := Lib.hid (ZZ7.out.below (bdr (bre w5)))
                      have HB8 := Lib.hid (btr HB5.out (bdr (bre w5)))
                      refine region_anyZ (z := 8) (S := fun w' => (w'.cell? ⟨n5, 1, none⟩ = some (.int .u32 p.serial) ∧ w'.cell? ⟨n5, 4, none⟩ = some (.slice a4 L4 c4))) (by kernel_rfl) ?_
                      refine anyZ_begin (fun hcl0 => ?_)
                      refine anyZ_held (by exact ⟨cell_of_row _ n5 1 _ _ _ HQ8.out, cell_of_row _ n5 4 _ _ _ HQ8.out⟩) (fun hHeld => ?_)
                      -- 0: Op.move (Operand.tmp 6)
                      refine' anyZ_pure (i := 0) (v := _) rfl (by rfl) (by kernel_rfl) (by kernel_rfl) (by kernel_rfl) hcl0 (fun _ _ _ h => h) (Or.inl ⟨by rfl, fun w _ => ?hy1⟩) (fun _ => hHeld) (fun hcl1 => ?ry1)
                      case hy1 => (simp only [List.getElem_toArray, List.getElem_cons_zero]; first | (go_simp; with_reducible rfl) | (go_simp; done) | rfl)
                      simp only [List.getElem_toArray, List.getElem_cons_zero, Act.put, List.setIfInBounds_toArray, List.set_cons_zero, List.set_cons_succ]
                      -- 1: Op.fieldAddr 66 (Operand.tmp 10) 4
                      refine' anyZ_pure (i := 1) (v := _) rfl (by rfl) (by kernel_rfl) (by kernel_rfl) (by kernel_rfl) hcl1 (fun _ _ _ h => h) (Or.inl ⟨by rfl, fun w _ => ?hy2⟩) (fun _ => hHeld) (fun hcl2 => ?ry2)
                      case hy2 => (simp only [List.getElem_toArray, List.getElem_cons_succ, List.getElem_cons_zero]; first | (go_simp; with_reducible rfl) | (go_simp; done) | rfl)
                      simp only [List.getElem_toArray, List.getElem_cons_succ, List.getElem_cons_zero, Act.put, List.setIfInBounds_toArray, List.set_cons_zero, List.set_cons_succ]
                      -- 2: Op.load 23 (Operand.tmp 63)
                      refine' anyZ_take (i := 2) (v := _) rfl (by rfl) (by kernel_rfl) (by kernel_rfl) (by kernel_rfl) hcl2 8 (by kernel_rfl) (by kernel_rfl) (fun _ _ _ h => h) (Or.inl ⟨by rfl, fun w hSw => ?hy3⟩) hHeld (fun hcl3 => ?ry3)
                      case hy3 => (simp only [List.getElem_toArray, List.getElem_cons_succ, List.getElem_cons_zero]; obtain ⟨hS1, hS2⟩ := hSw; first | (go_simp; with_reducible rfl) | (go_simp; done) | rfl)
                      simp only [List.getElem_toArray, List.getElem_cons_succ, List.getElem_cons_zero, Act.put, List.setIfInBounds_toArray, List.set_cons_zero, List.set_cons_succ]
                      -- 3: Op.slice 23 (Operand.tmp 64) (some (Operand.const (Value.int
                      refine' anyZ_pure (i := 3) (v := _) rfl (by rfl) (by kernel_rfl) (by kernel_rfl) (by kernel_rfl) hcl3 (fun _ _ _ h => h) (Or.inl ⟨by rfl, fun w _ => ?hy4⟩) (fun _ => hHeld) (fun hcl4 => ?ry4)
                      case hy4 => (simp only [List.getElem_toArray, List.getElem_cons_succ, List.getElem_cons_zero]; first | (go_simp; with_reducible rfl) | (go_simp; done) | rfl)
                      simp only [List.getElem_toArray, List.getElem_cons_succ, List.getElem_cons_zero, Act.put, List.setIfInBounds_toArray, List.set_cons_zero, List.set_cons_succ]
                      -- 5: Op.fieldAddr 66 (Operand.tmp 10) 1
                      refine' anyZ_pure (i := 5) (v := _) rfl (by rfl) (by kernel_rfl) (by kernel_rfl) (by kernel_rfl) hcl4 (fun _ _ _ h => h) (Or.inl ⟨by rfl, fun w _ => ?hy5⟩) (fun _ => hHeld) (fun hcl5 => ?ry5)
                      case hy5 => (simp only [List.getElem_toArray, List.getElem_cons_succ, List.getElem_cons_zero]; first | (go_simp; with_reducible rfl) | (go_simp; done) | rfl)
                      simp only [List.getElem_toArray, List.getElem_cons_succ, List.getElem_cons_zero, Act.put, List.setIfInBounds_toArray, List.set_cons_zero, List.set_cons_succ]
                      -- 6: Op.load 34 (Operand.tmp 67)
                      refine' anyZ_take (i := 6) (v := _) rfl (by rfl) (by kernel_rfl) (by kernel_rfl) (by kernel_rfl) hcl5 8 (by kernel_rfl) (by kernel_rfl) (fun _ _ _ h => h) (Or.inl ⟨by rfl, fun w hSw => ?hy6⟩) hHeld (fun hcl6 => ?ry6)
                      case hy6 => (simp only [List.getElem_toArray, List.getElem_cons_succ, List.getElem_cons_zero]; obtain ⟨hS1, hS2⟩ := hSw; first | (go_simp; with_reducible rfl) | (go_simp; done) | rfl)
                      simp only [List.getElem_toArray, List.getElem_cons_succ, List.getElem_cons_zero, Act.put, List.setIfInBounds_toArray, List.set_cons_zero, List.set_cons_succ]
                      -- 4: Op.call { callee := Callee.builtin Builtin.append, args := #
                      refine anyZ_one (i := 4) hcl6 (by kernel_rfl) (by simp only [List.getElem?_toArray, List.getElem?_cons_succ, List.getElem?_cons_zero]; rfl) (by rfl) (fun hcl7 K hK => ?_)
                      refine wp_app8 _ _ 23 5 row8 rfl w.heap.size _ P rfl HOW8.out _ (p.data.drop 4) rfl HZ8.out (by rw [List.length_drop, ← HL4.out]; omega) HB8.out.size ?_
                      intro v8 w8 ho8 hg8 hs8
                      have HOW9 := Lib.hid ho8
                      have HQ9 : Hid (w8.heap[n5]? = some (.cells #[.int .u32 p.gen, .int .u32 p.serial, .int .u32 p.number, .int .u8 p.kind, .slice a4 L4 c4] 66 (0, 0))) := Lib.hid (((Only.of_grown hg8).block n5 (Array.getElem?_eq_some_iff.1 HQ8.out).1 (own_ne HOW8.out HQ8.out (by decide))).trans HQ8.out)
                      have HB9 : Hid (Below w.heap.size w w8) := Lib.hid (HB8.out.trans ((Below.refl _ _).grown hg8 HB8.out.size (fun q hq => (World.ownsRow.lt HOW8.out q hq).1)))
                      clear ho8 hg8 hs8
                      refine hK _ _ (fun _ => ?_) ?_
                      · exact ⟨cell_of_row _ n5 1 _ _ _ HQ9.out, cell_of_row _ n5 4 _ _ _ HQ9.out⟩
                      clear hK K hHeld
                      have hHeld := (⟨cell_of_row _ n5 1 _ _ _ HQ9.out, cell_of_row _ n5 4 _ _ _ HQ9.out⟩ : _ ∧ _)
                      try simp only [Act.put, List.setIfInBounds_toArray, List.set_cons_zero, List.set_cons_succ]
                      -- 7: Op.assign (Operand.tmp 66)
                      refine' anyZ_pure (i := 7) (v := _) rfl (by rfl) (by kernel_rfl) (by kernel_rfl) (by kernel_rfl) hcl7 (fun _ _ _ h => h) (Or.inl ⟨by rfl, fun w _ => ?hy8⟩) (fun _ => hHeld) (fun hcl8 => ?ry8)
                      case hy8 => (simp only [List.getElem_toArray, List.getElem_cons_succ, List.getElem_cons_zero]; first | (go_simp; with_reducible rfl) | (go_simp; done) | rfl)
                      simp only [List.getElem_toArray, List.getElem_cons_succ, List.getElem_cons_zero, Act.put, List.setIfInBounds_toArray, List.set_cons_zero, List.set_cons_succ]
                      clear hHeld
                      refine anyZ_chain_at (by kernel_rfl) ?_
                      simp only [List.drop_succ_cons, List.drop_zero]
                      clear HOW8 HQ8 HZ8 HB8 s7 ZZ7 HOW5 HQ5 HB5 HY5
                      have z4 := cell_of_row w8 n5 4 _ _ _ HQ9.out
                      have hPl : (P ++ p.data.drop 4).length ≤ 487 * (k + 1) := by rw [List.length_append, List.length_drop, ← HL4.out]; omega
                      have hser := HPG.out.serial
                      by_cases hfull : L4 < 491
                      · have d6 : decide ((L4 : Int) < 491) = true := decide_eq_true (by omega)
                        have d6n : decide (L4 < 491) = true := decide_eq_true hfull
                        have HS : Hid (scanR gen 0 0 xs = (none, P ++ p.data.drop 4, so ++ [p.serial])) := Lib.hid (by
                          have := beenX_last hbeen.out HDR.out HE0.out (by rw [← HP.out]; exact HFOL.out) (by rw [← HP.out, ← HL4.out]; exact hfull)
                          rw [← HP.out] at this
                          exact this)
                        clear hfull
                        go_wp2_with fail
                        go_meet
                        case rel => exact ⟨_, _, HS, by omega, HOW9, HB9⟩
                      · have d6 : decide ((L4 : Int) < 491) = false := decide_eq_false (by omega)
                        have d6n : decide (L4 < 491) = false := decide_eq_false hfull
                        have HB' : Hid (Been gen xs (k + 1) p.serial (P ++ p.data.drop 4) (so ++ [p.serial])) := Lib.hid (by
                          have := beenX_on hbeen.out HDR.out HE0.out (by rw [← HP.out]; exact HFOL.out) (by rw [← HP.out, ← HL4.out]; exact hfull)
                          rw [← HP.out] at this
                          exact this)
                        clear hfull
                        go_wp2_with fail
                        go_roundw
                        case rel => exact ⟨k + 1, p.serial, _, _, by omega, by go_num, rfl, hser, hPl, HB', HOW9, HB9⟩
                        case measure => simp [intOf]; omega
                    · rw [decide_eq_false c5] at g1 g2
                      have HS := Lib.hid (HST.out fun h => c5 (by rw [HVV.out]; exact h.2.2.2.2))
                      clear c5
                      go_wp2_with fail
                      go_meet
                      case rel => exact ⟨P, so, HS, by omega, HOW5, HB5⟩
                  · have d5 : decide ((L4 : Int) < 4) = true := decide_eq_true (by omega)
                    have d5n : decide (L4 < 4) = true := decide_eq_true (by omega)
                    have HS := Lib.hid (HST.out fun h => c4' (by rw [HL4.out]; exact h.2.2.2.1))
                    clear c1 c2 c3 c4'
                    go_wp2_with fail
                    go_meet
                    case rel => exact ⟨P, so, HS, by omega, HOW5, HB5⟩
                · rw [decide_eq_false c3] at f5 f6
                  have HS := Lib.hid (HST.out fun h => c3 h.2.2.1)
                  clear c1 c2 c3
                  go_wp2_with fail
                  go_meet
                  case rel => exact ⟨P, so, HS, by omega, HOW5, HB5⟩
              · rw [decide_eq_false c2] at f3 f4
                have HS := Lib.hid (HST.out fun h => c2 h.2.1)
                clear c1 c2
                go_wp2_with fail
                go_meet
                case rel => exact ⟨P, so, HS, by omega, HOW5, HB5⟩
            · rw [decide_eq_false c1] at f1 f2
              have HS := Lib.hid (HST.out fun h => c1 h.1)
              clear c1
              go_wp2_with fail
              go_meet
              case rel => exact ⟨P, so, HS, by omega, HOW5, HB5⟩
          · have e1 : (E == 3) = false := beq_false_of_ne hE3
            have e2 : decide (E = 3) = false := decide_eq_false hE3
            have e3 : (E != 0) = true := bne_iff_ne.2 hE0
            have e4 : decide (E = 0) = false := decide_eq_false hE0
            have HS : Hid (scanR gen 0 0 xs = (some k, P, so)) := Lib.hid (beenX_bad hbeen.out HDR.out (by rw [← HE.out]; exact hE0) (by rw [← HE.out]; exact hE3))
            clear hE0 hE3
            go_wp2_with fail
            go_ret2
            exact ⟨some k, P, so, HS.out, HB5.out, fun i hi => by cases hi; rfl, fun h => by cases h⟩
      · have hkn : k = L := by omega
        have d1 : decide ((k : Int) < (L : Int)) = false := decide_eq_false (by omega)
        have d1n : decide (k < L) = false := decide_eq_false hlt
        have HS : Hid (scanR gen 0 0 xs = (none, P, so)) := Lib.hid (by
          have := hbeen.out
          rw [hkn, HL.out] at this
          exact beenX_end this)
        clear hkn
        go_wp2_with fail
        go_meet
        case rel => exact ⟨P, so, HS, by omega, hown, hb⟩
  case rest =>
    obtain ⟨P, so, HS, hP, hown, hb⟩ := hcut
    have hy := hown.out.bytes
    obtain ⟨a1, c1, rfl, hm1, hc1, -, -⟩ := id hy
    have HY := Lib.hid hy
    clear hy HB0
    go_wp2_with fail
    refine (rfcut_any _ P _ HY.out (by omega)).mono ?_
    rintro e w2 ⟨v2, rfl, hr2, hb2⟩
    have HR2 := Lib.hid (hr2.base (base' := w.heap.size) hb.out.size)
    have HB2 := Lib.hid (btr hb.out hb2)
    clear hr2 hb2 hown hb HY
    go_wp2_with fail
    go_ret2
    exact ⟨none, P, so, HS.out, HB2.out, fun i h => (by cases h), fun _ => ⟨_, rfl, HR2.out⟩⟩
end Go.Proofs.YtacfkhnajdneeaaDoor
