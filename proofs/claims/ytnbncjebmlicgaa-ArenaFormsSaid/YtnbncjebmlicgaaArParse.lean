/- Walk: Parse: an arena is read. -/
import Derived.Test.YtnbncjebmlicgaaArParseP
namespace Go.Proofs.Ytnbncjebmlicgaa
open Go.RowKit

theorem min_nat {r : Int} {m n : Nat} (h : Hid (r = if (n : Int) < m then (n : Int) else (m : Int))) : r = ((min m n : Nat) : Int) := by
  rw [h.out]
  split <;> omega

theorem own_row6 {base : Nat} {w : World} {v kv : Value} {l : List Nat} {n8 : Nat} {nd : Nd} (h : OwnIds base w v l) (hr : Row6 w n8 nd kv) : ∀ q, v.ownBlock = some q → ¬ q = n8 := fun q hq e => by
  subst e
  exact own_ne h (show w.heap[q]? = some (.cells _ 29 (0, 0)) from hr) (by decide) hq
set_option maxRecDepth 100000 in
set_option maxHeartbeats 12800000 in
theorem arparse_any (v : Value) (p : List UInt8) (w : World) (hp : Bytes w v p) (hbig : p.length ≤ 900000) :
    Calls Try.prog 33 #[v] w fun e w' => Below w.heap.size w w' ∧ ((∃ l g b, parseAr p = some l ∧ e = .returned (.tuple #[.pointer (some ⟨g, 0, none⟩), .int .i64 0]) ∧ ArAt w' g b l) ∨ (parseAr p = none ∧ e = .returned (.tuple #[.pointer none, .int .i64 2]))) := by
  have hmm := @run_makeMap Try.prog
  have hb0 := bal (bre w) (.map #[] 0)
  have hmap := MapU.new (P := Try.prog) (k := 26) w
  obtain ⟨b, hb⟩ : ∃ q, q = w.heap.size := ⟨_, rfl⟩
  have hbx := bal (bre (w.alloc (.map #[] 0))) (.cells #[.map (some w.heap.size)] 70)
  have hnx := heap_alloc_new (w.alloc (.map #[] 0)) (.cells #[.map (some w.heap.size)] 70)
  have har : ArAt ((w.alloc (.map #[] 0)).alloc (.cells #[.map (some w.heap.size)] 70)) (w.alloc (.map #[] 0)).heap.size w.heap.size [] :=
    ⟨hnx, ⟨[], hmap.below hbx, .nil⟩, (fun p hp => nomatch hp), Nat.zero_le _⟩
  have hlow : w.heap.size ≤ (w.alloc (.map #[] 0)).heap.size ∧ w.heap.size ≤ w.heap.size := ⟨hb0.size, Nat.le_refl _⟩
  have HP := Lib.hid (hp.below (btr hb0 hbx))
  have HA := Lib.hid har
  have HLOW := Lib.hid hlow
  have HB1 := Lib.hid (btr hb0 hbx)
  have HBIG := Lib.hid hbig
  clear hb0 hmap hbx hnx har hlow hp hb
  go_enter Try.func33, Try.ntmps33
  go_upto_region 2 with fail
  obtain ⟨b, hb⟩ : ∃ q, q = w.heap.size := ⟨_, rfl⟩
  obtain ⟨g, hg⟩ : ∃ q, q = w.heap.size + 1 := ⟨_, rfl⟩
  have hgs : g = (w.alloc (.map #[] 0)).heap.size := by rw [hg]; simp
  obtain ⟨W, hW⟩ : ∃ q, q = (w.alloc (.map #[] 0)).alloc (.cells #[.map (some w.heap.size)] 70) := ⟨_, rfl⟩
  rw [← hg, ← hW]
  have HA1 : Hid (ArAt W g b []) := Lib.hid (by rw [hgs, hW, hb]; exact HA.out)
  have HP1 : Hid (Bytes W v p) := Lib.hid (by rw [hW]; exact HP.out)
  have HL1 : Hid (w.heap.size ≤ g ∧ w.heap.size ≤ b) := Lib.hid (by rw [hgs, hb]; exact HLOW.out)
  have HB : Hid (Below w.heap.size w W) := Lib.hid (by rw [hW]; exact HB1.out)
  clear hb hg hgs hW HA HP HLOW HB1 hmm
  go_wp2_with fail
  refine (read_any v p W HP1.out (by have := HBIG.out; omega)).mono ?_
  rintro e w2 ⟨vr, rfl, hr2, hb2, hk2⟩
  obtain ⟨B, hB⟩ : ∃ q, q = w2.heap.size := ⟨_, rfl⟩
  rw [← hB] at hr2
  have hs2 : PSt w w2 g b B vr [] (some p) := ⟨HA1.out.below hb2, hr2, by omega, fun k e => by have h1 := hk2 k e; have h2 := HA1.out.lt; have h3 := HB.out.size; omega, HL1.out, btr HB.out hb2⟩
  have HS2 := Lib.hid hs2
  clear hr2 hb2 hk2 hB hs2 HP1 HB HL1 HA1
  go_wp2_with fail
  refine (rnum_any B vr (some p) 20000 _ HS2.out.rd).mono ?_
  rintro e w3 ⟨rfl, hr3, ht3⟩
  have hs3 := HS2.out.turn ht3 hr3
  have hfew3 : Few 900000 (Rd.num 20000 (some p)).2 := Few.num (fun q hq => by cases hq; exact HBIG.out) _
  have hC20 := num_top 20000 (some p)
  have hfin : finA [] (Rd.num 20000 (some p)).1 0 (Rd.num 20000 (some p)).2 = parseAr p := rfl
  obtain ⟨q3, hq3⟩ : ∃ q, q = Rd.num 20000 (some p) := ⟨_, rfl⟩
  rw [← hq3] at hs3 hfew3 hC20 hfin ⊢
  obtain ⟨C, o3⟩ := q3
  replace hs3 : PSt w w3 g b B vr [] o3 := hs3
  replace hfew3 : Few 900000 o3 := hfew3
  replace hC20 : C ≤ 20000 := hC20
  replace hfin : finA [] C 0 o3 = parseAr p := hfin
  have HS3 := Lib.hid hs3
  have HF3 := Lib.hid hfew3
  have HFIN := Lib.hid hfin
  clear hr3 ht3 hs3 hfew3 hfin hq3 HS2
  go_wp2_with fail
  go_loopw [6, 7, 8, 16] (fun lv _ _ i wr => ∃ (k last : Nat) (l : List (Nat × Nd)) (o : Option (List UInt8)), k ≤ C ∧ i = .int .u64 k ∧ lv = .int .u64 last ∧ last < 18446744073709551616 ∧ Hid (l.length = k) ∧ Hid (∀ p ∈ l, p.1 ≤ last) ∧ Hid (finA l (C - k) last o = parseAr p) ∧ Hid (Few 900000 o) ∧ Hid (PSt w wr g b B vr l o)) (fun _ _ _ i _ => C - (intOf i).toNat)
  case atStart => exact ⟨0, 0, [], o3, by omega, rfl, rfl, by omega, Lib.hid rfl, Lib.hid (fun p hp => nomatch hp), HFIN, HF3, HS3⟩
  case round =>
    clear HS3 HF3 HFIN
    obtain ⟨k, last, l, o, hk, rfl, rfl, hlast, hlen, hall, hfin, hfew, hst⟩ := hrel
    by_cases hlt : k < C
    · have d1 : decide ((k : Int) < (C : Int)) = true := decide_eq_true (by omega)
      have d1n : decide (k < C) = true := decide_eq_true hlt
      obtain ⟨DL, hDL⟩ : ∃ q, q = top64 - last := ⟨_, rfl⟩
      have hdl : IntKind.u64.wrap ((18446744073709551615 : Int) - (last : Int)) = (DL : Int) := by rw [IntKind.wrap_u64, hDL]; unfold top64; omega
      have HDL := Lib.hid hDL
      obtain ⟨m, hm⟩ : ∃ q, C - k = q + 1 := ⟨C - k - 1, by omega⟩
      have HM := Lib.hid hm
      clear hDL hm
      go_wp2_with fail
      refine (rnum_any B vr o DL _ hst.out.rd).mono ?_
      rintro e w4 ⟨rfl, hr4, ht4⟩
      have hs4 := hst.out.turn ht4 hr4
      have hf4 := hfew.out.num DL
      have hd4 := num_top DL o
      obtain ⟨q4, hq4⟩ : ∃ q, q = Rd.num DL o := ⟨_, rfl⟩
      rw [← hq4] at hs4 hf4 hd4 ⊢
      have HQ4 := Lib.hid hq4
      obtain ⟨bt, o4⟩ := q4
      replace hs4 : PSt w w4 g b B vr l o4 := hs4
      replace hf4 : Few 900000 o4 := hf4
      replace hd4 : bt ≤ DL := hd4
      have HS4 := Lib.hid hs4
      have HF4 := Lib.hid hf4
      have hb64 : last + bt < 18446744073709551616 := by have := HDL.out; unfold top64 at this; omega
      clear hr4 ht4 hs4 hf4 hq4 hst hfew
      by_cases h0 : bt = 0
      · have e1 : decide ((bt : Int) = 0) = true := decide_eq_true (by omega)
        have e2 : ((bt : Int) == 0) = true := by rw [h0]; rfl
        have HN : Hid (parseAr p = none) := Lib.hid (by
          rw [← hfin.out, HM.out, finA_none]
          rw [← HDL.out, ← HQ4.out]
          exact h0)
        have HBE := Lib.hid HS4.out.bel
        clear hb64 hd4 hfin
        go_wp2_with fail
        go_ret2
        exact ⟨HBE.out, .inr ⟨HN.out, rfl⟩⟩
      · have e1 : decide ((bt : Int) = 0) = false := decide_eq_false (by omega)
        have e2 : ((bt : Int) == 0) = false := by rw [beq_eq_false_iff_ne]; omega
        obtain ⟨x, hx⟩ : ∃ q, q = last + bt := ⟨_, rfl⟩
        have hxw : IntKind.u64.wrap ((last : Int) + (bt : Int)) = (x : Int) := by rw [IntKind.wrap_u64]; omega
        have hx64 : x < 18446744073709551616 := by omega
        have hx0 : x ≠ 0 := by omega
        have HALL : Hid (∀ p ∈ l, p.1 < x) := Lib.hid fun p hp => by have := hall.out p hp; omega
        have HST : Hid (finA (l ++ [(x, (rdNd o4).1)]) m x (rdNd o4).2 = parseAr p) := Lib.hid (by
          rw [← hfin.out, HM.out, finA_step (by rw [← HDL.out, ← HQ4.out]; exact h0), ← HDL.out, ← HQ4.out, hx])
        have HXL : Hid (last < x) := Lib.hid (by omega)
        clear hfin hb64 hd4 HQ4 HDL hdl hx hall
        go_wp2_with fail
        refine (rbyte_any B vr o4 _ HS4.out.rd).mono ?_
        rintro e w5 ⟨rfl, hr5, ht5⟩
        obtain ⟨q5, hq5⟩ : ∃ q, q = Rd.take o4 := ⟨_, rfl⟩
        rw [← hq5] at hr5 ⊢
        have HS5 := Lib.hid (HS4.out.turn ht5 hr5)
        have HQ5 := Lib.hid hq5
        clear hr5 ht5 hq5
        go_wp2_with fail
        refine (rtext_any B vr q5.2 64 _ (by omega) HS5.out.rd).mono ?_
        rintro e w6 ⟨rfl, hr6, ht6⟩
        obtain ⟨q6, hq6⟩ : ∃ q, q = Rd.text 64 q5.2 := ⟨_, rfl⟩
        rw [← hq6] at hr6 ⊢
        have HS6 := Lib.hid (HS5.out.turn ht6 hr6)
        have HQ6 := Lib.hid hq6
        clear hr6 ht6 hq6 HS5
        go_wp2_with fail
        refine (rint_any B vr q6.2 _ HS6.out.rd).mono ?_
        rintro e w7 ⟨rfl, hr7, ht7⟩
        obtain ⟨q7, hq7⟩ : ∃ q, q = Rd.int q6.2 := ⟨_, rfl⟩
        rw [← hq7] at hr7 ⊢
        have HS7 := Lib.hid (HS6.out.turn ht7 hr7)
        have HQ7 := Lib.hid hq7
        clear hr7 ht7 hq7 HS6
        go_wp2_with fail
        refine (rbyte_any B vr q7.2 _ HS7.out.rd).mono ?_
        rintro e w8 ⟨rfl, hr8, ht8⟩
        obtain ⟨q8, hq8⟩ : ∃ q, q = Rd.take q7.2 := ⟨_, rfl⟩
        rw [← hq8] at hr8 ⊢
        have HS8 := Lib.hid (HS7.out.turn ht8 hr8)
        have HQ8 := Lib.hid hq8
        clear hr8 ht8 hq8 HS7
        go_wp2_with fail
        refine (rnum_any B vr q8.2 top64 _ HS8.out.rd).mono ?_
        rintro e w9 ⟨rfl, hr9, ht9⟩
        obtain ⟨q9, hq9⟩ : ∃ q, q = Rd.num top64 q8.2 := ⟨_, rfl⟩
        rw [← hq9] at hr9 ⊢
        have HS9 := Lib.hid (HS8.out.turn ht9 hr9)
        have HQ9 := Lib.hid hq9
        clear hr9 ht9 hq9 HS8
        obtain ⟨hd, hhd⟩ : ∃ q : Nd, q = ⟨q5.1.toNat, ⟨q6.1.toArray⟩, q7.1, q8.1.toNat, q9.1, []⟩ := ⟨_, rfl⟩
        have HHD := Lib.hid hhd
        have z0 : ((q5.1.toNat : Nat) : Int) = (hd.kind : Int) := by rw [hhd]
        have z1 : strOf q6.1 = hd.name := by rw [hhd]; rfl
        have z2 : q7.1 = hd.num := by rw [hhd]
        have z3 : ((q8.1.toNat : Nat) : Int) = (hd.typ : Int) := by rw [hhd]
        have z4 : ((q9.1 : Nat) : Int) = (hd.ref : Int) := by rw [hhd]
        clear hhd
        rw [z0, z1, z2, z3, z4]
        clear z0 z1 z2 z3 z4
        go_upto_region 11 with fail
        have hba := bal (bre w9) (.cells #[.int .u8 hd.kind, .string hd.name, .int .i64 hd.num, .int .u8 hd.typ, .int .u64 hd.ref, .slice none 0 0] 29)
        have hra := heap_alloc_new w9 (.cells #[.int .u8 hd.kind, .string hd.name, .int .i64 hd.num, .int .u8 hd.typ, .int .u64 hd.ref, .slice none 0 0] 29)
        generalize w9.alloc (.cells #[.int .u8 hd.kind, .string hd.name, .int .i64 hd.num, .int .u8 hd.typ, .int .u64 hd.ref, .slice none 0 0] 29) = wa at *
        obtain ⟨n8, hn8⟩ : ∃ q, q = w9.heap.size := ⟨_, rfl⟩
        rw [← hn8] at hra ⊢
        have hka : KSt w9 wa n8 B vr (.slice none 0 0) hd [] q9.2 := ⟨hra, OwnIds.nil _ _, HS9.out.rd.low (hba.mono HS9.out.sz), Only.of_below hba _, by omega, HS9.out.sz⟩
        have HKA := Lib.hid hka
        clear hba hra hn8 hka
        go_wp2_with fail
        refine (rnum_any B vr q9.2 top64 _ HKA.out.rd).mono ?_
        rintro e wb ⟨rfl, hrb, htb⟩
        obtain ⟨qb, hqb⟩ : ∃ q, q = Rd.num top64 q9.2 := ⟨_, rfl⟩
        rw [← hqb] at hrb ⊢
        have HKB := Lib.hid (HKA.out.turn htb hrb)
        have HEQ : Hid (rdHead o4 = (hd, min qb.1 (Rd.left qb.2 + 1), qb.2)) := Lib.hid (by
          rw [HHD.out]
          exact rdHead_eq HQ5.out HQ6.out HQ7.out HQ8.out HQ9.out hqb)
        have HFB : Hid (Few 900000 qb.2) := Lib.hid (by
          rw [hqb, HQ9.out, HQ8.out, HQ7.out, HQ6.out, HQ5.out]
          exact ((((((HF4.out.take).text 64).int).take).num top64).num top64))
        have HOK := Lib.hid (rdNd_ok HF4.out)
        have hlf := HFB.out.left
        clear hrb htb hqb HKA HQ5 HQ6 HQ7 HQ8 HQ9 HHD
        go_wp2_with fail
        refine (left_any B vr qb.2 _ HKB.out.rd).mono ?_
        rintro e wc ⟨rfl, hwc⟩
        have hwc' := hwc.symm
        subst hwc'
        clear hwc
        obtain ⟨LF, hLF⟩ : ∃ q, q = Rd.left qb.2 := ⟨_, rfl⟩
        rw [← hLF] at HEQ hlf ⊢
        obtain ⟨cb, ob⟩ := qb
        replace HKB : Hid (KSt w9 wb n8 B vr (.slice none 0 0) hd [] ob) := HKB
        replace HEQ : Hid (rdHead o4 = (hd, min cb (LF + 1), ob)) := HEQ
        replace HFB : Hid (Few 900000 ob) := HFB
        have hf1 : IntKind.u64.wrap (LF : Int) = (LF : Int) := by rw [IntKind.wrap_u64]; omega
        have hf2 : IntKind.u64.wrap ((LF : Int) + 1) = ((LF + 1 : Nat) : Int) := by rw [IntKind.wrap_u64]; omega
        clear hLF
        go_wp2_with (with_reducible refine wpList_min rfl _ _ _ rfl _ _ _ rfl rfl ?_; intro r hr; have hr2 := min_nat hr; subst hr2; clear hr)
        obtain ⟨M, hM⟩ : ∃ q, q = min cb (LF + 1) := ⟨_, rfl⟩
        rw [← hM] at HEQ ⊢
        have hM9 : M ≤ 900001 := by omega
        clear hM hf1 hf2 hlf
        go_loopw [45] (fun i ws => ∃ (j : Nat) (ks : List Nat) (oj : Option (List UInt8)) (kv : Value), j ≤ M ∧ i = .int .u64 j ∧ Hid (ks.length = j) ∧ Hid ((ks ++ (rdKids (M - j) oj).1, (rdKids (M - j) oj).2) = rdKids M ob) ∧ Hid (KSt w9 ws n8 B vr kv hd ks oj)) (fun i _ => M - (intOf i).toNat)
        case atStart => exact ⟨0, [], ob, _, by omega, rfl, Lib.hid rfl, Lib.hid rfl, HKB⟩
        case round =>
          clear HKB
          obtain ⟨j, ks, oj, kv, hj, rfl, hksl, hrd, hkst⟩ := hrel
          rename World => ws
          by_cases hjl : j < M
          · have d1 : decide ((j : Int) < (M : Int)) = true := decide_eq_true (by omega)
            have d1n : decide (j < M) = true := decide_eq_true hjl
            obtain ⟨ka, kc, hkv⟩ := hkst.out.ids.slice
            rw [hksl.out] at hkv
            subst hkv
            obtain ⟨m2, hm2⟩ : ∃ q, M - j = q + 1 := ⟨M - j - 1, by omega⟩
            have HM2 := Lib.hid hm2
            have HC5 := Lib.hid hkst.out.row.c5
            clear hm2
            go_upto_region 13 with fail
            have HSB : Hid (ws.drew.cell? ⟨n8, 5, none⟩ = some (.slice ka j kc)) := Lib.hid ((hkst.out.below (bdr (bre _))).row.c5)
            refine region_anyZ (z := 5) (S := fun w' => w'.cell? ⟨n8, 5, none⟩ = some (.slice ka j kc)) (by kernel_rfl) ?_
            refine anyZ_begin (fun hcl0 => ?_)
            refine anyZ_held (by exact HSB.out) (fun hHeld => ?_)
            -- 0: Op.fieldAddr 29 (Operand.tmp 8) 5
            refine' anyZ_pure (i := 0) (v := _) rfl (by rfl) (by kernel_rfl) (by kernel_rfl) (by kernel_rfl) hcl0 (fun _ _ _ h => h) (Or.inl ⟨by rfl, fun w _ => ?hz1⟩) (fun _ => hHeld) (fun hcl1 => ?rz1)
            case hz1 => (simp only [List.getElem_toArray, List.getElem_cons_zero]; first | (go_simp; with_reducible rfl) | (go_simp; done) | rfl)
            simp only [List.getElem_toArray, List.getElem_cons_zero, Act.put, List.setIfInBounds_toArray, List.set_cons_zero, List.set_cons_succ]
            -- 1: Op.load 27 (Operand.tmp 47)
            refine' anyZ_take (i := 1) (v := _) rfl (by rfl) (by kernel_rfl) (by kernel_rfl) (by kernel_rfl) hcl1 8 (by kernel_rfl) (by kernel_rfl) (fun _ _ _ h => h) (Or.inl ⟨by rfl, fun w hSw => ?hz2⟩) hHeld (fun hcl2 => ?rz2)
            case hz2 => (simp only [List.getElem_toArray, List.getElem_cons_succ, List.getElem_cons_zero]; have hS1 := hSw; first | (go_simp; with_reducible rfl) | (go_simp; done) | rfl)
            simp only [List.getElem_toArray, List.getElem_cons_succ, List.getElem_cons_zero, Act.put, List.setIfInBounds_toArray, List.set_cons_zero, List.set_cons_succ]
            -- 2: Op.move (Operand.tmp 5)
            refine' anyZ_pure (i := 2) (v := _) rfl (by rfl) (by kernel_rfl) (by kernel_rfl) (by kernel_rfl) hcl2 (fun _ _ _ h => h) (Or.inl ⟨by rfl, fun w _ => ?hz3⟩) (fun _ => hHeld) (fun hcl3 => ?rz3)
            case hz3 => (simp only [List.getElem_toArray, List.getElem_cons_succ, List.getElem_cons_zero]; first | (go_simp; with_reducible rfl) | (go_simp; done) | rfl)
            simp only [List.getElem_toArray, List.getElem_cons_succ, List.getElem_cons_zero, Act.put, List.setIfInBounds_toArray, List.set_cons_zero, List.set_cons_succ]
            -- 3: Op.call { callee := Callee.value (Operand.func 54), args := 
            refine anyZ_one (i := 3) hcl3 (by kernel_rfl) (by simp only [List.getElem?_toArray, List.getElem?_cons_succ, List.getElem?_cons_zero]; rfl) (by rfl) (fun hcl4 K hK => ?_)
            go_simp
            refine (rnum_any B vr oj top64 _ (hkst.out.below (bdr (bre _))).rd).mono ?_
            rintro e w13 ⟨rfl, hr13, ht13⟩
            obtain ⟨q13, hq13⟩ : ∃ q, q = Rd.num top64 oj := ⟨_, rfl⟩
            rw [← hq13] at hr13 ⊢
            have HQ13 := Lib.hid hq13
            have HK13 := Lib.hid ((hkst.out.below (bdr (bre _))).turn ht13 hr13)
            clear hr13 ht13 hq13
            refine hK _ _ (fun _ => ?_) ?_
            · exact HK13.out.row.c5
            clear hK K hHeld
            try simp only [Act.put, List.setIfInBounds_toArray, List.set_cons_zero, List.set_cons_succ]
            -- 4: Op.buildSlice 27 1 #[(0, Operand.tmp 50)]
            refine anyZ_one (i := 4) hcl4 (by kernel_rfl) (by simp only [List.getElem?_toArray, List.getElem?_cons_succ, List.getElem?_cons_zero]; rfl) (by rfl) (fun hcl5 K hK => ?_)
            go_simp
            refine hK _ _ (fun _ => ?_) ?_
            · exact (HK13.out.below (bal (bre w13) _)).row.c5
            clear hK K
            try simp only [Act.put, List.setIfInBounds_toArray, List.set_cons_zero, List.set_cons_succ]
            refine anyZ_chain_at (by kernel_rfl) ?_
            simp only [List.drop_succ_cons, List.drop_zero]
            have HO13 : Hid (OwnIds w9.heap.size w13 (.slice ka j kc) ks) := Lib.hid HK13.out.ids
            have HSZ13 : Hid (w9.heap.size ≤ w13.heap.size) := Lib.hid HK13.out.tn.size
            have HNE13 : Hid (∀ q, (Value.slice ka j kc).ownBlock = some q → ¬ q = n8) := Lib.hid (own_row6 HO13.out HK13.out.row)
            have hkl13 : (ks.map U64).length = j := by rw [List.length_map, hksl.out]
            at_builtin; refine wpList_app rfl _ _ 27 26 1 8 rowI rfl w9.heap.size _ j (ks.map U64) rfl (World.ownsRow.alloc (by have h1 := HO13.out; unfold OwnIds at h1; rw [hksl.out] at h1; exact h1) _) _ 1 1 [U64 q13.1] rfl rfl (lies_one _ _ _) (Nat.le_refl _) (fun h => by cases h) (by simp [Value.oneCell', U64]) (by unfold maxLen; omega) (by omega) (Nat.le_trans HSZ13.out (bal (bre _) _).size) ?_; intro v14 w14 ho14 hg14 hb14
            have hrow14 : Row6 w14 n8 hd (.slice ka j kc) := by
              have h1 := HK13.out.row
              have h2 := h1.below (bal (bre w13) (.cells #[U64 q13.1] 26))
              exact (hg14.block n8 h2.lt (fun e => HNE13.out _ e.symm rfl)).trans h2
            have hfz14 := hrow14.fz 5
            have hcl14 := hrow14.c5
            have hown14 : OwnIds w9.heap.size w14 v14 (ks ++ [q13.1]) := by unfold OwnIds; rw [List.length_append, List.map_append, hksl.out]; exact ho14
            obtain ⟨a14, c14, e14⟩ := hown14.slice
            rw [List.length_append, hksl.out] at e14
            replace e14 : v14 = .slice a14 (j + 1) c14 := e14
            subst e14
            have hk14 := HK13.out.more (w' := w14) (kv' := .slice a14 (j + 1) c14) (ks' := ks ++ [q13.1]) (((Below.refl w9.heap.size w13).alloc HSZ13.out _).trans hb14) hrow14 hown14
            have HK14 := Lib.hid hk14
            have HKS14 : Hid ((ks ++ [q13.1]).length = j + 1) := Lib.hid (by rw [List.length_append, hksl.out]; rfl)
            have HRD14 : Hid (((ks ++ [q13.1]) ++ (rdKids (M - (j + 1)) q13.2).1, (rdKids (M - (j + 1)) q13.2).2) = rdKids M ob) := Lib.hid (by
              have h1 := hrd.out
              rw [HM2.out] at h1
              simp only [rdKids] at h1
              rw [← HQ13.out] at h1
              rw [show M - (j + 1) = m2 by have := HM2.out; omega, List.append_assoc]
              exact h1)
            clear hown14 hk14 ho14 hg14 hb14
            go_wp2_with fail
            generalize w14.setCell ⟨n8, 5, none⟩ (.slice a14 (j + 1) c14) = w15 at *
            clear hrow14 hfz14 hcl14
            go_roundw
            case rel => first | exact ⟨j + 1, _, _, _, by omega, by go_num, HKS14, HRD14, HK14⟩ | ((repeat apply Exists.intro); exact ⟨⟨j + 1, _, _, _, by omega, by go_num, HKS14, HRD14, HK14⟩, rfl⟩)
            case measure => (simp [intOf]; try omega)
          · have d1 : decide ((j : Int) < (M : Int)) = false := decide_eq_false (by omega)
            have d1n : decide (j < M) = false := decide_eq_false hjl
            have hjM : j = M := by omega
            have HNDE : Hid (rdNd o4 = ({ hd with kids := ks }, oj)) := Lib.hid (by
              rw [rdNd_eq HEQ.out]
              have h1 := hrd.out
              rw [hjM, Nat.sub_self] at h1
              simp only [rdKids, List.append_nil] at h1
              rw [← h1])
            have HSA : Hid (PSt w ws g b B vr l oj) := Lib.hid (HS9.out.turn hkst.out.tn hkst.out.rd)
            obtain ⟨nd, hnd⟩ : ∃ q : Nd, q = { hd with kids := ks } := ⟨_, rfl⟩
            rw [← hnd] at HNDE
            have HOWN : Hid (OwnNd 0 ws (NdVal nd kv) nd) := Lib.hid ⟨kv, rfl, by rw [hnd]; exact hkst.out.ids.base (Nat.zero_le _), by have := HOK.out.1; rw [HNDE.out] at this; exact this⟩
            have HROW : Hid (Row6 ws n8 nd kv) := Lib.hid (by rw [hnd]; exact hkst.out.row)
            have HFJ : Hid (Few 900000 oj) := Lib.hid (by have := HOK.out.2; rw [HNDE.out] at this; exact this)
            have HST2 : Hid (finA (l ++ [(x, nd)]) (C - (k + 1)) x oj = parseAr p) := Lib.hid (by
              have h1 := HST.out
              rw [HNDE.out] at h1
              rw [show C - (k + 1) = m by have := HM.out; omega]
              exact h1)
            have hl20 : l.length < 20000 := by rw [hlen.out]; omega
            clear hjM hnd hkst hrd hksl HEQ HFB HOK HST
            go_upto_region 15 with fail
            have HSB : Hid (∀ w', Below ws.heap.size ws w' → (w'.cell? ⟨g, 0, none⟩ = some (.map (some b)) ∧ w'.cell? ⟨n8, 0, none⟩ = some (.int .u8 nd.kind) ∧ w'.cell? ⟨n8, 1, none⟩ = some (.string nd.name) ∧ w'.cell? ⟨n8, 2, none⟩ = some (.int .i64 nd.num) ∧ w'.cell? ⟨n8, 3, none⟩ = some (.int .u8 nd.typ) ∧ w'.cell? ⟨n8, 4, none⟩ = some (.int .u64 nd.ref) ∧ w'.cell? ⟨n8, 5, none⟩ = some kv)) := Lib.hid (fun w' hb => ⟨(HSA.out.ar.below hb).c0, (HROW.out.below hb).c0, (HROW.out.below hb).c1, (HROW.out.below hb).c2, (HROW.out.below hb).c3, (HROW.out.below hb).c4, (HROW.out.below hb).c5⟩)
            refine region_anyZ (z := 6) (S := fun w' => (w'.cell? ⟨g, 0, none⟩ = some (.map (some b)) ∧ w'.cell? ⟨n8, 0, none⟩ = some (.int .u8 nd.kind) ∧ w'.cell? ⟨n8, 1, none⟩ = some (.string nd.name) ∧ w'.cell? ⟨n8, 2, none⟩ = some (.int .i64 nd.num) ∧ w'.cell? ⟨n8, 3, none⟩ = some (.int .u8 nd.typ) ∧ w'.cell? ⟨n8, 4, none⟩ = some (.int .u64 nd.ref) ∧ w'.cell? ⟨n8, 5, none⟩ = some kv)) (by kernel_rfl) ?_
            refine anyZ_begin (fun hcl0 => ?_)
            refine anyZ_held (by exact HSB.out _ (bdr (bre ws))) (fun hHeld => ?_)
            -- 0: Op.move (Operand.tmp 4)
            refine' anyZ_pure (i := 0) (v := _) rfl (by rfl) (by kernel_rfl) (by kernel_rfl) (by kernel_rfl) hcl0 (fun _ _ _ h => h) (Or.inl ⟨by rfl, fun w _ => ?hy1⟩) (fun _ => hHeld) (fun hcl1 => ?ry1)
            case hy1 => (simp only [List.getElem_toArray, List.getElem_cons_zero]; first | (go_simp; with_reducible rfl) | (go_simp; done) | rfl)
            simp only [List.getElem_toArray, List.getElem_cons_zero, Act.put, List.setIfInBounds_toArray, List.set_cons_zero, List.set_cons_succ]
            -- 1: Op.nilCheck (Operand.tmp 55)
            refine' anyZ_pure (i := 1) (v := _) rfl (by rfl) (by kernel_rfl) (by kernel_rfl) (by kernel_rfl) hcl1 (fun _ _ _ h => h) (Or.inl ⟨by rfl, fun w _ => ?hy2⟩) (fun _ => hHeld) (fun hcl2 => ?ry2)
            case hy2 => (simp only [List.getElem_toArray, List.getElem_cons_succ, List.getElem_cons_zero]; first | (go_simp; with_reducible rfl) | (go_simp; done) | rfl)
            simp only [List.getElem_toArray, List.getElem_cons_succ, List.getElem_cons_zero, Act.put, List.setIfInBounds_toArray, List.set_cons_zero, List.set_cons_succ]
            -- 2: Op.fieldAddr 70 (Operand.tmp 56) 0
            refine' anyZ_pure (i := 2) (v := _) rfl (by rfl) (by kernel_rfl) (by kernel_rfl) (by kernel_rfl) hcl2 (fun _ _ _ h => h) (Or.inl ⟨by rfl, fun w _ => ?hy3⟩) (fun _ => hHeld) (fun hcl3 => ?ry3)
            case hy3 => (simp only [List.getElem_toArray, List.getElem_cons_succ, List.getElem_cons_zero]; first | (go_simp; with_reducible rfl) | (go_simp; done) | rfl)
            simp only [List.getElem_toArray, List.getElem_cons_succ, List.getElem_cons_zero, Act.put, List.setIfInBounds_toArray, List.set_cons_zero, List.set_cons_succ]
            -- 3: Op.load 68 (Operand.tmp 57)
            refine' anyZ_take (i := 3) (v := _) rfl (by rfl) (by kernel_rfl) (by kernel_rfl) (by kernel_rfl) hcl3 8 (by kernel_rfl) (by kernel_rfl) (fun _ _ _ h => h) (Or.inl ⟨by rfl, fun w hSw => ?hy4⟩) hHeld (fun hcl4 => ?ry4)
            case hy4 => (simp only [List.getElem_toArray, List.getElem_cons_succ, List.getElem_cons_zero]; obtain ⟨hS1, hS2, hS3, hS4, hS5, hS6, hS7⟩ := hSw; first | (go_simp; with_reducible rfl) | (go_simp; done) | rfl)
            simp only [List.getElem_toArray, List.getElem_cons_succ, List.getElem_cons_zero, Act.put, List.setIfInBounds_toArray, List.set_cons_zero, List.set_cons_succ]
            -- 4: Op.move (Operand.tmp 6)
            refine' anyZ_pure (i := 4) (v := _) rfl (by rfl) (by kernel_rfl) (by kernel_rfl) (by kernel_rfl) hcl4 (fun _ _ _ h => h) (Or.inl ⟨by rfl, fun w _ => ?hy5⟩) (fun _ => hHeld) (fun hcl5 => ?ry5)
            case hy5 => (simp only [List.getElem_toArray, List.getElem_cons_succ, List.getElem_cons_zero]; first | (go_simp; with_reducible rfl) | (go_simp; done) | rfl)
            simp only [List.getElem_toArray, List.getElem_cons_succ, List.getElem_cons_zero, Act.put, List.setIfInBounds_toArray, List.set_cons_zero, List.set_cons_succ]
            -- 5: Op.load 29 (Operand.tmp 8)
            refine' anyZ_take (i := 5) (v := _) rfl (by rfl) (by kernel_rfl) (by kernel_rfl) (by kernel_rfl) hcl5 8 (by kernel_rfl) (by kernel_rfl) (fun _ _ _ h => h) (Or.inl ⟨by rfl, fun w hSw => ?hy6⟩) hHeld (fun hcl6 => ?ry6)
            case hy6 => (simp only [List.getElem_toArray, List.getElem_cons_succ, List.getElem_cons_zero]; obtain ⟨hS1, hS2, hS3, hS4, hS5, hS6, hS7⟩ := hSw; first | (go_simp; with_reducible rfl) | (go_simp; done) | rfl)
            simp only [List.getElem_toArray, List.getElem_cons_succ, List.getElem_cons_zero, Act.put, List.setIfInBounds_toArray, List.set_cons_zero, List.set_cons_succ]
            clear hHeld
            refine anyZ_chain_at (by kernel_rfl) ?_
            simp only [List.drop_succ_cons, List.drop_zero]
            obtain ⟨w16, hrun16, hs16⟩ := (HSA.out.below (bdr (bre ws))).store x hx64 hx0 (NdVal nd kv) nd (HOWN.out.below (bdr (bre ws))) hl20 HALL.out
            have hrun16' : (Instr.mapUpdate 68 (.map (some b)) (.int .u64 (x : Nat)) (.agg #[.int .u8 nd.kind, .string nd.name, .int .i64 nd.num, .int .u8 nd.typ, .int .u64 nd.ref, kv])).run Try.prog ws.drew = .ok () w16 := hrun16
            have HS16 := Lib.hid hs16
            clear hrun16 hs16
            go_wp2_with fail
            have HLEN16 : Hid ((l ++ [(x, nd)]).length = k + 1) := Lib.hid (by rw [List.length_append, hlen.out]; rfl)
            have HALL16 : Hid (∀ p ∈ l ++ [(x, nd)], p.1 ≤ x) := Lib.hid (fun p hp => by
              rcases List.mem_append.1 hp with hp | hp
              · exact Nat.le_of_lt (HALL.out p hp)
              · rw [List.mem_singleton.1 hp]; exact Nat.le_refl _)
            go_roundw
            case rel => first | exact ⟨k + 1, x, _, _, by omega, by go_num, rfl, hx64, HLEN16, HALL16, HST2, HFJ, HS16⟩ | ((repeat apply Exists.intro); exact ⟨⟨k + 1, x, _, _, by omega, by go_num, rfl, hx64, HLEN16, HALL16, HST2, HFJ, HS16⟩, rfl⟩)
            case measure => (simp [intOf]; try omega)
    · have d1 : decide ((k : Int) < (C : Int)) = false := decide_eq_false (by omega)
      have d1n : decide (k < C) = false := decide_eq_false hlt
      have HEND : Hid (parseAr p = if o = some [] then some l else none) := Lib.hid (by rw [← hfin.out, show C - k = 0 by omega, finA_end])
      have HST := hst
      clear hst hfin hlen hall hfew
      go_wp2_with fail
      refine (done_any B vr o _ HST.out.rd).mono ?_
      rintro e wd ⟨rfl, hwd⟩
      have hwd' := hwd.symm
      subst hwd'
      clear hwd
      by_cases ho : o = some []
      · rw [if_pos ho]
        have HE2 : Hid (parseAr p = some l) := Lib.hid (by rw [HEND.out, if_pos ho])
        clear ho
        go_wp2_with fail
        go_ret2
        exact ⟨HST.out.bel, .inl ⟨l, g, b, HE2.out, rfl, HST.out.ar⟩⟩
      · rw [if_neg ho]
        have HE2 : Hid (parseAr p = none) := Lib.hid (by rw [HEND.out, if_neg ho])
        clear ho
        go_wp2_with fail
        go_ret2
        exact ⟨HST.out.bel, .inr ⟨HE2.out, rfl⟩⟩
end Go.Proofs.Ytnbncjebmlicgaa
