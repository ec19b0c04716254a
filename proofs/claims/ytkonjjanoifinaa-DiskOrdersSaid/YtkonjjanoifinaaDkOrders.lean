/- DiskOrders: of several writes of one sector the last one that is kept stands behind a crash; without a crash the last one. -/
import Derived.Test.YtkonjjanoifinaaDkKeeps
namespace Go.Proofs.Ytkonjjanoifinaa
open Go.RowKit

/-- a disk of two sectors, the second one written, again and again -/
def ordD (ps : List (List UInt8)) : Dk := ⟨(Dk.new 2).safe, ps.map fun p => (1, p), ps.length, false, 0⟩
theorem ordD_snoc (ps : List (List UInt8)) (p : List UInt8) : (ordD ps).wrote 1 p = ordD (ps ++ [p]) := by
  unfold ordD Dk.wrote
  simp
/-- what is kept last -/
def keptOf (keep : List Bool) : Nat → List (List UInt8) → List UInt8 → List UInt8
  | _, [], d => d
  | k, p :: ps, d => keptOf keep (k + 1) ps (if keep.getD k false then p else d)
theorem keptOf_snoc (keep : List Bool) (p : List UInt8) (ps : List (List UInt8)) : ∀ (k : Nat) (d : List UInt8), keptOf keep k (ps ++ [p]) d = if keep.getD (k + ps.length) false then p else keptOf keep k ps d := by
  induction ps with
  | nil => intro k d; simp [keptOf]
  | cons y ps ih => intro k d; rw [List.cons_append, keptOf, ih, keptOf, List.length_cons, show k + 1 + ps.length = k + (ps.length + 1) by omega]
def lastP (ps : List (List UInt8)) : List UInt8 := ps.getLastD blank512
theorem lastP_snoc (ps : List (List UInt8)) (p : List UInt8) : lastP (ps ++ [p]) = p := by unfold lastP; simp

theorem ord_now (ps : List (List UInt8)) : (ordD ps).now 1 = lastP ps := by
  unfold Dk.now
  show lastOf (ps.map fun p => (1, p)) 1 blank512 = _
  unfold lastP
  have key : ∀ (ps : List (List UInt8)) (d : List UInt8), lastOf (ps.map fun p => (1, p)) 1 d = ps.getLastD d := by
    intro ps
    induction ps with
    | nil => intro d; rfl
    | cons p ps ih =>
      intro d
      show lastOf (ps.map fun p => (1, p)) 1 (if 1 = 1 then p else d) = _
      rw [if_pos rfl, ih]
      cases ps <;> rfl
  exact key ps blank512

theorem ord_crash (keep : List Bool) (ps : List (List UInt8)) : ((ordD ps).crashed keep).safe = [blank512, keptOf keep 0 ps blank512] := by
  have key : ∀ (ps : List (List UInt8)) (k : Nat) (d : List UInt8), crashOf keep k (ps.map fun p => (1, p)) [blank512, d] = [blank512, keptOf keep k ps d] := by
    intro ps
    induction ps with
    | nil => intro k d; rfl
    | cons p ps ih =>
      intro k d
      rw [List.map_cons, crashOf, keptOf]
      split
      · exact ih _ _
      · exact ih _ _
  exact key ps 0 blank512

theorem ord_synced (ps : List (List UInt8)) : (ordD ps).synced.safe = [blank512, lastP ps] := by
  have key : ∀ (ps : List (List UInt8)) (d : List UInt8), syncOf [blank512, d] (ps.map fun p => (1, p)) = [blank512, ps.getLastD d] := by
    intro ps
    induction ps with
    | nil => intro d; rfl
    | cons p ps ih =>
      intro d
      show syncOf [blank512, p] (ps.map fun p => (1, p)) = _
      rw [ih]
      cases ps <;> rfl
  exact key ps blank512
set_option maxRecDepth 10000 in
set_option maxHeartbeats 12800000 in
theorem orders_calls (v0 v1 : Value) (ls : List (List UInt8)) (keep : List Bool) (w : World) (hl : Rows8 w v0 ls) (hkeep : Bools w v1 keep) :
    Calls Try.prog 5 #[v0, v1] w fun e w' => e = .returned (.bool true) ∧ Below w.heap.size w w' := by
  have HK := Lib.hid hkeep
  obtain ⟨ra, rc, rfl, hrm, hrc, _, hrr⟩ := hl
  obtain ⟨ka, kc, rfl, hkm, hkc0, _, hkr⟩ := hkeep
  unfold maxLen at hrm hkm
  have HR := Lib.hid hrr
  have HKR := Lib.hid hkr
  clear hrr hkr
  go_enter Try.func5, Try.ntmps5
  go_wp2_with fail
  refine (awake_any w).mono ?_
  rintro e w1 ⟨rfl, hb1⟩
  go_wp2_with fail
  refine (new_any 2 w1 (by omega) (by omega)).mono ?_
  rintro e w2 ⟨g, F, rfl, hd2, hF2, hb2⟩
  have hb02 := btr hb1 hb2
  have hF5 : ∀ q, F q → w.heap.size ≤ q := fun q h => Nat.le_trans hb1.size (hF2 q h)
  have hd2' : DiskAt w2 g (ordD []) F := hd2
  clear hd2 hF2 hb1 hb2
  go_wp2
  refine region_anyZ (z := 3) (S := fun _ => True) (by kernel_rfl) ?_
  refine anyZ_begin (fun hcl0 => ?_)
  refine anyZ_two (i := 0) (j := 1) hcl0 (by kernel_rfl) (by simp only [List.getElem?_toArray, List.getElem?_cons_zero]; rfl) (by rfl) (by simp only [List.getElem?_toArray, List.getElem?_cons_succ, List.getElem?_cons_zero]; rfl) (by rfl) (fun hcl2 K hK => ?_) (fun hcl2 K hK => ?_)
  · clear hcl0
    refine wp_make8 _ _ 22 5 make8 rfl 512 rfl rfl (by omega) ?_
    intro w3 ho3 hb3
    refine hK _ _ (fun _ => trivial) ?_
    clear hK K
    try simp only [Act.put, List.setIfInBounds_toArray, List.set_cons_zero, List.set_cons_succ]
    refine' anyZ_pure (i := 2) (v := _) rfl (by rfl) (by kernel_rfl) (by kernel_rfl) (by kernel_rfl) hcl2 (fun _ _ _ h => h) (Or.inl ⟨by rfl, fun w _ => ?hp⟩) (fun _ => trivial) (fun hcl3 => ?rp)
    case hp => (simp only [List.getElem_toArray, List.getElem_cons_succ, List.getElem_cons_zero]; first | (go_simp; with_reducible rfl) | (go_simp; done) | rfl)
    simp only [List.getElem_toArray, List.getElem_cons_succ, List.getElem_cons_zero, Act.put, List.setIfInBounds_toArray, List.set_cons_zero, List.set_cons_succ]
    refine anyZ_one (i := 1) hcl3 (by kernel_rfl) (by simp only [List.getElem?_toArray, List.getElem?_cons_succ, List.getElem?_cons_zero]; rfl) (by rfl) (fun hcl4 K hK => ?_)
    refine wp_make8 _ _ 22 5 make8 rfl 512 rfl rfl (by omega) ?_
    intro w5 ho5 hb5
    refine hK _ _ (fun _ => trivial) ?_
    clear hK K
    try simp only [Act.put, List.setIfInBounds_toArray, List.set_cons_zero, List.set_cons_succ]
    refine anyZ_chain_at (by kernel_rfl) ?_
    simp only [List.drop_succ_cons, List.drop_zero]
    have hb3' : Below w2.heap.size w2 w3 := ⟨hb3.os, hb3.tape, hb3.output, hb3.size, hb3.block⟩
    have hy3 : Bytes w5 _ blank512 := ho3.bytes.below hb5
    have hy5 : Bytes w5 _ blank512 := ho5.bytes
    have ha3 := away_own ho3 (F := F) hd2'.lt
    have ha5 := away_own ho5 (F := F) (fun q h => Nat.lt_of_lt_of_le (hd2'.lt q h) hb3.size)
    have hd5 := (hd2'.below hb3').below hb5
    have hb05 := btr (btr hb02 hb3') hb5
    clear ho3 ho5 hb3 hb3' hb5 hd2' hb02
    have hn3 : w2.drew.heap.size = w2.heap.size := rfl
    rw [hn3] at hy3 ha3
    try rw [hn3]
    clear hn3
    generalize w2.heap.size = n2 at *
    generalize w3.heap.size = n3 at *
    have hy7 := hy3
    have hy8 := hy5
    have ha7 := ha3
    have ha8 := ha5
    clear hy3 hy5 ha3 ha5
    clear hcl2 hcl3 hcl4
    go_wp2
    go_loopw [7, 8, 9, 10, 29] (fun want last _ _ i wr => ∃ (m : Nat) (ps : List (List UInt8)) (W L : List UInt8) (G : Nat → Prop), i = .int .i64 m ∧ m ≤ ls.length ∧ (ps.length = m ∧ m ≤ 8) ∧ Hid (DiskAt wr g (ordD ps) G) ∧ Hid (W = keptOf keep 0 ps blank512) ∧ Hid (L = lastP ps) ∧ Hid (Bytes wr want W) ∧ Hid (Bytes wr last L) ∧ Hid (Away want G) ∧ Hid (Away last G) ∧ Hid (W.length = 512) ∧ Hid (L.length = 512) ∧ Hid (∀ q, G q → w.heap.size ≤ q) ∧ Below w.heap.size w wr) (fun _ _ _ _ i _ => ls.length - (intOf i).toNat)
    case atStart => exact ⟨0, [], blank512, blank512, F, rfl, by omega, ⟨rfl, by omega⟩, Lib.hid hd5, Lib.hid rfl, Lib.hid rfl, Lib.hid hy7, Lib.hid hy8, Lib.hid ha7, Lib.hid ha8, Lib.hid blank_len, Lib.hid blank_len, Lib.hid hF5, hb05⟩
    case round =>
      obtain ⟨m, ps, W, L, G, rfl, hm, ⟨hps, hm8⟩, HD, HW, HLL, HBW, HBL, HAW, HAL, HWLn, HLLn, HF, hb⟩ := hrel
      clear hd5 hy7 hy8 ha7 ha8 hF5 hb05
      by_cases hlt : m < ls.length
      · by_cases h8 : m < 8
        · clear hm8
          have hrow := HR.out
          obtain ⟨rg, ro, hra, hcell⟩ : ∃ rg ro, ra = some ⟨rg, ro, none⟩ ∧ ∀ (j : Nat) x, ls[j]? = some x → ∃ u, w.cell? ⟨rg, ro + j, none⟩ = some u ∧ Bytes w u x := by
            rcases hrow with h | h
            · rw [h] at hlt; simp at hlt
            · exact h
          subst hra
          obtain ⟨u, hu, hub⟩ := hcell m _ (List.getElem?_eq_getElem hlt)
          have hu' := (hb.cell (p := ⟨rg, ro + m, none⟩) (block_lt_of_cell hu)).trans hu
          have hub' := hub.below hb
          generalize ls[m] = q at *
          have HUB := Lib.hid hub'
          have hmi : (m : Int) < ls.length := by omega
          have hm8 : decide ((8 : Int) ≤ m) = false := by simp; omega
          clear hcell hrow hu hub hub'
          go_wp2_with fail
          refine (full_any u q wr HUB.out).mono ?_
          rintro e w6 ⟨vq, rfl, ho6, hb6⟩
          have hq6 := ho6.bytes
          have haq6 := away_own ho6 HD.out.lt
          have hd6 := HD.out.below hb6
          have hbw6 := HBW.out.below hb6
          have hbl6 := HBL.out.below hb6
          have hb06 := btr hb hb6
          have hQl := fullOf_length q
          have hQn := full_ne q
          generalize fullOf q = Q at *
          have HQL := Lib.hid hQl
          clear ho6 hb6 hQl
          have hpl : ps.length ≤ 8 := by omega
          go_wp2_with fail
          refine (write_ok g (ordD ps) G 1 vq Q w6 hd6 (by show 1 < 2; omega) rfl hq6 HQL.out (by show _ < (0 : Int); omega) (by show (0 : Int) ≤ _; omega) (by show ps.length ≤ _; omega) (by show (ps.map fun p => (1, p)).length ≤ _; rw [List.length_map]; omega)).mono ?_
          rintro e w7 ⟨G7, rfl, hd7, hm7⟩
          rw [ordD_snoc] at hd7
          obtain ⟨hq7, haq7⟩ := moved_bytes hm7 hq6 hQn haq6
          obtain ⟨hw7, haw7⟩ := moved_bytes hm7 hbw6 (fun h => by rw [h] at HWLn; exact absurd HWLn.out (by simp)) HAW.out
          have hb07 := hb06.trans (hm7.below hb06.size HF.out)
          have hF7 := hm7.ge hb06.size HF.out
          have hk2 := keptOf_snoc keep Q ps 0 blank512
          rw [Nat.zero_add, hps, ← HW.out] at hk2
          have HL2 := Lib.hid (show Q = lastP (ps ++ [Q]) from (lastP_snoc ps Q).symm)
          clear hm7 hq6 hd6 hbw6 hbl6 hb06 haq6
          by_cases hkp : keep.getD m false = true
          · have hkl : m < keep.length := by
              rcases Nat.lt_or_ge m keep.length with h | h
              · exact h
              · rw [List.getD_eq_getElem?_getD, List.getElem?_eq_none h] at hkp; cases hkp
            have hkb : keep[m]? = some true := by
              rw [List.getD_eq_getElem?_getD, List.getElem?_eq_getElem hkl] at hkp
              rw [List.getElem?_eq_getElem hkl]
              exact congrArg some hkp
            rw [if_pos hkp] at hk2
            have HK2 := Lib.hid hk2
            obtain ⟨kg, ko, hka, hkc⟩ : ∃ kg ko, ka = some ⟨kg, ko, none⟩ ∧ w7.cell? ⟨kg, ko + m, none⟩ = some (.bool true) := by
              rcases HKR.out with h | ⟨kg, ko, ha, hc⟩
              · rw [h] at hkl; simp at hkl
              · obtain ⟨u, hu, rfl⟩ := hc m true hkb
                exact ⟨kg, ko, ha, (hb07.cell (p := ⟨kg, ko + m, none⟩) (block_lt_of_cell hu)).trans hu⟩
            subst hka
            have hkl' : (m : Int) < keep.length := by omega
            clear hk2 hkp hkb
            go_wp2
            go_roundw
            case rel => first | exact ⟨m + 1, ps ++ [Q], Q, Q, G7, by go_num, by omega, ⟨by simp [hps], by omega⟩, Lib.hid hd7, Lib.hid HK2.out.symm, HL2, Lib.hid hq7, Lib.hid hq7, Lib.hid haq7, Lib.hid haq7, HQL, HQL, Lib.hid hF7, hb07⟩ | ((repeat apply Exists.intro); exact ⟨⟨m + 1, ps ++ [Q], Q, Q, G7, by go_num, by omega, ⟨by simp [hps], by omega⟩, Lib.hid hd7, Lib.hid HK2.out.symm, HL2, Lib.hid hq7, Lib.hid hq7, Lib.hid haq7, Lib.hid haq7, HQL, HQL, Lib.hid hF7, hb07⟩, rfl⟩)
            case measure => first | (simp [intOf]; done) | (simp [intOf]; omega)
          · rw [if_neg hkp] at hk2
            have HK2 := Lib.hid hk2
            by_cases hkl : m < keep.length
            · have hkb : keep[m]? = some false := by
                rw [List.getD_eq_getElem?_getD, List.getElem?_eq_getElem hkl] at hkp
                rw [List.getElem?_eq_getElem hkl]
                exact congrArg some (by simpa using hkp)
              obtain ⟨kg, ko, hka, hkc⟩ : ∃ kg ko, ka = some ⟨kg, ko, none⟩ ∧ w7.cell? ⟨kg, ko + m, none⟩ = some (.bool false) := by
                rcases HKR.out with h | ⟨kg, ko, ha, hc⟩
                · rw [h] at hkl; simp at hkl
                · obtain ⟨u, hu, rfl⟩ := hc m false hkb
                  exact ⟨kg, ko, ha, (hb07.cell (p := ⟨kg, ko + m, none⟩) (block_lt_of_cell hu)).trans hu⟩
              subst hka
              have hkl' : (m : Int) < keep.length := by omega
              clear hk2 hkp hkb
              go_wp2
              go_roundw
              case rel => first | exact ⟨m + 1, ps ++ [Q], W, Q, G7, by go_num, by omega, ⟨by simp [hps], by omega⟩, Lib.hid hd7, Lib.hid HK2.out.symm, HL2, Lib.hid hw7, Lib.hid hq7, Lib.hid haw7, Lib.hid haq7, HWLn, HQL, Lib.hid hF7, hb07⟩ | ((repeat apply Exists.intro); exact ⟨⟨m + 1, ps ++ [Q], W, Q, G7, by go_num, by omega, ⟨by simp [hps], by omega⟩, Lib.hid hd7, Lib.hid HK2.out.symm, HL2, Lib.hid hw7, Lib.hid hq7, Lib.hid haw7, Lib.hid haq7, HWLn, HQL, Lib.hid hF7, hb07⟩, rfl⟩)
              case measure => first | (simp [intOf]; done) | (simp [intOf]; omega)
            · have hkl' : (keep.length : Int) ≤ m := by omega
              clear hk2 hkp
              go_wp2
              go_roundw
              case rel => first | exact ⟨m + 1, ps ++ [Q], W, Q, G7, by go_num, by omega, ⟨by simp [hps], by omega⟩, Lib.hid hd7, Lib.hid HK2.out.symm, HL2, Lib.hid hw7, Lib.hid hq7, Lib.hid haw7, Lib.hid haq7, HWLn, HQL, Lib.hid hF7, hb07⟩ | ((repeat apply Exists.intro); exact ⟨⟨m + 1, ps ++ [Q], W, Q, G7, by go_num, by omega, ⟨by simp [hps], by omega⟩, Lib.hid hd7, Lib.hid HK2.out.symm, HL2, Lib.hid hw7, Lib.hid hq7, Lib.hid haw7, Lib.hid haq7, HWLn, HQL, Lib.hid hF7, hb07⟩, rfl⟩)
              case measure => first | (simp [intOf]; done) | (simp [intOf]; omega)
        · have hm9 : m = 8 := by omega
          subst hm9
          have hmi : (8 : Int) < ls.length := by omega
          have hra2 : ∃ rg ro, ra = some ⟨rg, ro, none⟩ ∧ ∃ u, wr.cell? ⟨rg, ro + 8, none⟩ = some u := by
            rcases HR.out with h | ⟨rg, ro, ha, hc⟩
            · rw [h] at hlt; simp at hlt
            · obtain ⟨u, hu, _⟩ := hc 8 _ (List.getElem?_eq_getElem hlt)
              exact ⟨rg, ro, ha, u, (hb.cell (p := ⟨rg, ro + 8, none⟩) (block_lt_of_cell hu)).trans hu⟩
          obtain ⟨rg, ro, hra, u, hu⟩ := hra2
          subst hra
          have HKW := Lib.hid (show lastP ps = L from HLL.out.symm)
          have hcs := ord_crash keep ps
          have hnow := ord_now ps
          have hsy := ord_synced ps
          have hpl : (ordD ps).wait.length ≤ 1000000 := by show (ps.map fun p => (1, p)).length ≤ _; rw [List.length_map]; omega
          rw [← HW.out] at hcs
          rw [← HLL.out] at hnow hsy
          have hcn1 : ((ordD ps).crashed keep).now 1 = W := by
            show (((ordD ps).crashed keep).safe).getD 1 [] = W
            rw [hcs]; rfl
          have hcn0 : ((ordD ps).crashed keep).now 0 = blank512 := by
            show (((ordD ps).crashed keep).safe).getD 0 [] = blank512
            rw [hcs]; rfl
          have hsn1 : (ordD ps).synced.now 1 = L := by
            show ((ordD ps).synced.safe).getD 1 [] = L
            rw [hsy]; rfl
          have hcl : ((ordD ps).crashed keep).safe.length = 2 := by rw [hcs]; rfl
          have hsl : (ordD ps).synced.safe.length = 2 := by rw [hsy]; rfl
          have hcw : ((ordD ps).crashed keep).wait = [] := rfl
          have hsw : (ordD ps).synced.wait = [] := rfl
          have HN := Lib.hid hnow
          have HC1 := Lib.hid hcn1
          have HC0 := Lib.hid hcn0
          have HS1 := Lib.hid hsn1
          have HCL := Lib.hid hcl
          have HSL := Lib.hid hsl
          have HCW := Lib.hid hcw
          have HSW := Lib.hid hsw
          clear hnow hcn1 hcn0 hsn1 hcl hsl hcw hsw hcs hsy
          go_wp2_with fail
          refine (crash_ok g (ordD ps) G _ keep wr HD.out (HK.out.below hb) hpl).mono ?_
          rintro e w6 ⟨gc, Fc, rfl, hdc6, hFc, hb6⟩
          have hd6 := HD.out.below hb6
          have hx6 := HBW.out.below hb6
          have hy6 := HBL.out.below hb6
          have hb06 := btr hb hb6
          have hcx : ∀ q, Fc q → ¬ G q := fun q h1 h2 => by have := hFc q h1; have := HD.out.lt q h2; omega
          generalize hdcg : (ordD ps).crashed keep = dc at *
          clear hdcg hb6 hFc
          go_wp2_with fail
          refine (dread_ok gc dc Fc 1 w6 hdc6 (by rw [HCL.out]; omega) (by rw [HCW.out]; simp)).mono ?_
          rintro e w7 ⟨x, rfl, hx7, hb7⟩
          have hxx := hx7.bytes
          rw [HC1.out] at hxx
          have hd7 := hd6.below hb7
          have hdc7 := hdc6.below hb7
          have hw7 := hx6.below hb7
          have hl7 := hy6.below hb7
          have hb07 := btr hb06 hb7
          have hax : Away x G := away_own hx7 hd6.lt
          clear hx7 hb7 hd6 hdc6 hx6 hy6 hb06
          go_wp2_with fail
          refine (dread_ok g (ordD ps) G 1 w7 hd7 (by show 1 < 2; omega) hpl).mono ?_
          rintro e w8 ⟨y, rfl, hy8, hb8⟩
          have hyy := hy8.bytes
          rw [HN.out] at hyy
          have hd8 := hd7.below hb8
          have hdc8 := hdc7.below hb8
          have hw8 := hw7.below hb8
          have hl8 := hl7.below hb8
          have hx8 := hxx.below hb8
          have hb08 := btr hb07 hb8
          have hay : Away y G := away_own hy8 hd7.lt
          clear hy8 hb8 hd7 hdc7 hw7 hl7 hxx hb07
          go_wp2_with fail
          refine (sync_ok g (ordD ps) G w8 hd8 rfl (by show _ < (0 : Int); omega) (by show (0 : Int) ≤ _; omega) hpl).mono ?_
          rintro e w9 ⟨G9, rfl, hd9, hm9⟩
          obtain ⟨hw9, _⟩ := moved_bytes hm9 hw8 (fun h => by rw [h] at HWLn; exact absurd HWLn.out (by simp)) HAW.out
          obtain ⟨hl9, _⟩ := moved_bytes hm9 hl8 (fun h => by rw [h] at HLLn; exact absurd HLLn.out (by simp)) HAL.out
          obtain ⟨hx9, _⟩ := moved_bytes hm9 hx8 (fun h => by rw [h] at HWLn; exact absurd HWLn.out (by simp)) hax
          obtain ⟨hy9, _⟩ := moved_bytes hm9 hyy (fun h => by rw [h] at HLLn; exact absurd HLLn.out (by simp)) hay
          obtain ⟨hdc9, _⟩ := moved_disk hm9 hdc8 hcx
          have hb09 := hb08.trans (hm9.below hb08.size HF.out)
          generalize (ordD ps).synced = ds at *
          clear hm9 hw8 hl8 hx8 hyy hdc8 hd8 hb08 hax hay
          go_wp2_with fail
          refine (dread_ok g ds G9 1 w9 hd9 (by rw [HSL.out]; omega) (by rw [HSW.out]; simp)).mono ?_
          rintro e w10 ⟨z, rfl, hz10, hb10⟩
          have hzz := hz10.bytes
          rw [HS1.out] at hzz
          have hd10 := hd9.below hb10
          have hdc10 := hdc9.below hb10
          have hw10 := hw9.below hb10
          have hl10 := hl9.below hb10
          have hx10 := hx9.below hb10
          have hy10 := hy9.below hb10
          have hb010 := btr hb09 hb10
          clear hz10 hb10 hd9 hdc9 hw9 hl9 hx9 hy9 hb09
          go_wp2_with fail
          refine (same_any _ _ _ _ w10 hx10 hw10).mono ?_
          rintro e w11 ⟨rfl, k11, rfl⟩
          rw [decide_eq_true (by rfl : (_ : List UInt8) = _)]
          have hb11 := bdn (bre w10) k11
          have hd11 := hd10.below hb11
          have hdc11 := hdc10.below hb11
          have hl11 := hl10.below hb11
          have hy11 := hy10.below hb11
          have hz11 := hzz.below hb11
          have hb011 := btr hb010 hb11
          clear hb11 hd10 hdc10 hw10 hl10 hx10 hy10 hzz hb010
          generalize w10.drewN k11 = w11 at *
          go_wp2_with fail
          refine (same_any _ _ _ _ w11 hy11 hl11).mono ?_
          rintro e w12 ⟨rfl, k12, rfl⟩
          rw [decide_eq_true (by rfl : (_ : List UInt8) = _)]
          have hb12 := bdn (bre w11) k12
          have hd12 := hd11.below hb12
          have hdc12 := hdc11.below hb12
          have hl12 := hl11.below hb12
          have hz12 := hz11.below hb12
          have hb012 := btr hb011 hb12
          clear hb12 hd11 hdc11 hl11 hy11 hz11 hb011
          generalize w11.drewN k12 = w12 at *
          go_wp2_with fail
          refine (same_any _ _ _ _ w12 hz12 hl12).mono ?_
          rintro e w13 ⟨rfl, k13, rfl⟩
          rw [decide_eq_true (by rfl : (_ : List UInt8) = _)]
          have hb13 := bdn (bre w12) k13
          have hd13 := hd12.below hb13
          have hdc13 := hdc12.below hb13
          have hb013 := btr hb012 hb13
          clear hb13 hd12 hdc12 hl12 hz12 hb012
          generalize w12.drewN k13 = w13 at *
          go_wp2_with fail
          refine (blank_ok gc dc Fc 0 w13 hdc13 (by rw [HCL.out]; omega) (by rw [HCW.out]; simp)).mono ?_
          rintro e w14 ⟨rfl, hb14⟩
          rw [HC0.out, decide_eq_true (by rfl : (_ : List UInt8) = _)]
          have hd14 := hd13.below hb14
          have hb014 := btr hb013 hb14
          clear hb14 hd13 hdc13 hb013
          go_wp2_with fail
          refine (waiting_any g ds G9 w14 hd14 (by rw [HSW.out]; simp)).mono ?_
          rintro e w15 ⟨v15, rfl, ho15, hb15⟩
          have hb015 := btr hb014 hb15
          rw [HSW.out] at ho15
          obtain ⟨a15, c15, rfl, _⟩ := ownsRow_lies ho15
          clear ho15 hb15 hd14 hb014
          go_wp2
          go_ret
          exact ⟨rfl, hb015⟩
      · have hml : m = ls.length := by omega
        subst hml
        have HKW := Lib.hid (show lastP ps = L from HLL.out.symm)
        have hcs := ord_crash keep ps
        have hnow := ord_now ps
        have hsy := ord_synced ps
        have hpl : (ordD ps).wait.length ≤ 1000000 := by show (ps.map fun p => (1, p)).length ≤ _; rw [List.length_map]; omega
        rw [← HW.out] at hcs
        rw [← HLL.out] at hnow hsy
        have hcn1 : ((ordD ps).crashed keep).now 1 = W := by
          show (((ordD ps).crashed keep).safe).getD 1 [] = W
          rw [hcs]; rfl
        have hcn0 : ((ordD ps).crashed keep).now 0 = blank512 := by
          show (((ordD ps).crashed keep).safe).getD 0 [] = blank512
          rw [hcs]; rfl
        have hsn1 : (ordD ps).synced.now 1 = L := by
          show ((ordD ps).synced.safe).getD 1 [] = L
          rw [hsy]; rfl
        have hcl : ((ordD ps).crashed keep).safe.length = 2 := by rw [hcs]; rfl
        have hsl : (ordD ps).synced.safe.length = 2 := by rw [hsy]; rfl
        have hcw : ((ordD ps).crashed keep).wait = [] := rfl
        have hsw : (ordD ps).synced.wait = [] := rfl
        have HN := Lib.hid hnow
        have HC1 := Lib.hid hcn1
        have HC0 := Lib.hid hcn0
        have HS1 := Lib.hid hsn1
        have HCL := Lib.hid hcl
        have HSL := Lib.hid hsl
        have HCW := Lib.hid hcw
        have HSW := Lib.hid hsw
        clear hnow hcn1 hcn0 hsn1 hcl hsl hcw hsw hcs hsy
        go_wp2_with fail
        refine (crash_ok g (ordD ps) G _ keep wr HD.out (HK.out.below hb) hpl).mono ?_
        rintro e w6 ⟨gc, Fc, rfl, hdc6, hFc, hb6⟩
        have hd6 := HD.out.below hb6
        have hx6 := HBW.out.below hb6
        have hy6 := HBL.out.below hb6
        have hb06 := btr hb hb6
        have hcx : ∀ q, Fc q → ¬ G q := fun q h1 h2 => by have := hFc q h1; have := HD.out.lt q h2; omega
        generalize hdcg : (ordD ps).crashed keep = dc at *
        clear hdcg hb6 hFc
        go_wp2_with fail
        refine (dread_ok gc dc Fc 1 w6 hdc6 (by rw [HCL.out]; omega) (by rw [HCW.out]; simp)).mono ?_
        rintro e w7 ⟨x, rfl, hx7, hb7⟩
        have hxx := hx7.bytes
        rw [HC1.out] at hxx
        have hd7 := hd6.below hb7
        have hdc7 := hdc6.below hb7
        have hw7 := hx6.below hb7
        have hl7 := hy6.below hb7
        have hb07 := btr hb06 hb7
        have hax : Away x G := away_own hx7 hd6.lt
        clear hx7 hb7 hd6 hdc6 hx6 hy6 hb06
        go_wp2_with fail
        refine (dread_ok g (ordD ps) G 1 w7 hd7 (by show 1 < 2; omega) hpl).mono ?_
        rintro e w8 ⟨y, rfl, hy8, hb8⟩
        have hyy := hy8.bytes
        rw [HN.out] at hyy
        have hd8 := hd7.below hb8
        have hdc8 := hdc7.below hb8
        have hw8 := hw7.below hb8
        have hl8 := hl7.below hb8
        have hx8 := hxx.below hb8
        have hb08 := btr hb07 hb8
        have hay : Away y G := away_own hy8 hd7.lt
        clear hy8 hb8 hd7 hdc7 hw7 hl7 hxx hb07
        go_wp2_with fail
        refine (sync_ok g (ordD ps) G w8 hd8 rfl (by show _ < (0 : Int); omega) (by show (0 : Int) ≤ _; omega) hpl).mono ?_
        rintro e w9 ⟨G9, rfl, hd9, hm9⟩
        obtain ⟨hw9, _⟩ := moved_bytes hm9 hw8 (fun h => by rw [h] at HWLn; exact absurd HWLn.out (by simp)) HAW.out
        obtain ⟨hl9, _⟩ := moved_bytes hm9 hl8 (fun h => by rw [h] at HLLn; exact absurd HLLn.out (by simp)) HAL.out
        obtain ⟨hx9, _⟩ := moved_bytes hm9 hx8 (fun h => by rw [h] at HWLn; exact absurd HWLn.out (by simp)) hax
        obtain ⟨hy9, _⟩ := moved_bytes hm9 hyy (fun h => by rw [h] at HLLn; exact absurd HLLn.out (by simp)) hay
        obtain ⟨hdc9, _⟩ := moved_disk hm9 hdc8 hcx
        have hb09 := hb08.trans (hm9.below hb08.size HF.out)
        generalize (ordD ps).synced = ds at *
        clear hm9 hw8 hl8 hx8 hyy hdc8 hd8 hb08 hax hay
        go_wp2_with fail
        refine (dread_ok g ds G9 1 w9 hd9 (by rw [HSL.out]; omega) (by rw [HSW.out]; simp)).mono ?_
        rintro e w10 ⟨z, rfl, hz10, hb10⟩
        have hzz := hz10.bytes
        rw [HS1.out] at hzz
        have hd10 := hd9.below hb10
        have hdc10 := hdc9.below hb10
        have hw10 := hw9.below hb10
        have hl10 := hl9.below hb10
        have hx10 := hx9.below hb10
        have hy10 := hy9.below hb10
        have hb010 := btr hb09 hb10
        clear hz10 hb10 hd9 hdc9 hw9 hl9 hx9 hy9 hb09
        go_wp2_with fail
        refine (same_any _ _ _ _ w10 hx10 hw10).mono ?_
        rintro e w11 ⟨rfl, k11, rfl⟩
        rw [decide_eq_true (by rfl : (_ : List UInt8) = _)]
        have hb11 := bdn (bre w10) k11
        have hd11 := hd10.below hb11
        have hdc11 := hdc10.below hb11
        have hl11 := hl10.below hb11
        have hy11 := hy10.below hb11
        have hz11 := hzz.below hb11
        have hb011 := btr hb010 hb11
        clear hb11 hd10 hdc10 hw10 hl10 hx10 hy10 hzz hb010
        generalize w10.drewN k11 = w11 at *
        go_wp2_with fail
        refine (same_any _ _ _ _ w11 hy11 hl11).mono ?_
        rintro e w12 ⟨rfl, k12, rfl⟩
        rw [decide_eq_true (by rfl : (_ : List UInt8) = _)]
        have hb12 := bdn (bre w11) k12
        have hd12 := hd11.below hb12
        have hdc12 := hdc11.below hb12
        have hl12 := hl11.below hb12
        have hz12 := hz11.below hb12
        have hb012 := btr hb011 hb12
        clear hb12 hd11 hdc11 hl11 hy11 hz11 hb011
        generalize w11.drewN k12 = w12 at *
        go_wp2_with fail
        refine (same_any _ _ _ _ w12 hz12 hl12).mono ?_
        rintro e w13 ⟨rfl, k13, rfl⟩
        rw [decide_eq_true (by rfl : (_ : List UInt8) = _)]
        have hb13 := bdn (bre w12) k13
        have hd13 := hd12.below hb13
        have hdc13 := hdc12.below hb13
        have hb013 := btr hb012 hb13
        clear hb13 hd12 hdc12 hl12 hz12 hb012
        generalize w12.drewN k13 = w13 at *
        go_wp2_with fail
        refine (blank_ok gc dc Fc 0 w13 hdc13 (by rw [HCL.out]; omega) (by rw [HCW.out]; simp)).mono ?_
        rintro e w14 ⟨rfl, hb14⟩
        rw [HC0.out, decide_eq_true (by rfl : (_ : List UInt8) = _)]
        have hd14 := hd13.below hb14
        have hb014 := btr hb013 hb14
        clear hb14 hd13 hdc13 hb013
        go_wp2_with fail
        refine (waiting_any g ds G9 w14 hd14 (by rw [HSW.out]; simp)).mono ?_
        rintro e w15 ⟨v15, rfl, ho15, hb15⟩
        have hb015 := btr hb014 hb15
        rw [HSW.out] at ho15
        obtain ⟨a15, c15, rfl, _⟩ := ownsRow_lies ho15
        clear ho15 hb15 hd14 hb014
        go_wp2
        go_ret
        exact ⟨rfl, hb015⟩
  · clear hcl0
    refine wp_make8 _ _ 22 5 make8 rfl 512 rfl rfl (by omega) ?_
    intro w3 ho3 hb3
    refine hK _ _ (fun _ => trivial) ?_
    clear hK K
    try simp only [Act.put, List.setIfInBounds_toArray, List.set_cons_zero, List.set_cons_succ]
    refine anyZ_one (i := 0) hcl2 (by kernel_rfl) (by simp only [List.getElem?_toArray, List.getElem?_cons_zero]; rfl) (by rfl) (fun hcl3 K hK => ?_)
    refine wp_make8 _ _ 22 5 make8 rfl 512 rfl rfl (by omega) ?_
    intro w5 ho5 hb5
    refine hK _ _ (fun _ => trivial) ?_
    clear hK K
    try simp only [Act.put, List.setIfInBounds_toArray, List.set_cons_zero, List.set_cons_succ]
    refine' anyZ_pure (i := 2) (v := _) rfl (by rfl) (by kernel_rfl) (by kernel_rfl) (by kernel_rfl) hcl3 (fun _ _ _ h => h) (Or.inl ⟨by rfl, fun w _ => ?hq⟩) (fun _ => trivial) (fun hcl4 => ?rq)
    case hq => (simp only [List.getElem_toArray, List.getElem_cons_succ, List.getElem_cons_zero]; first | (go_simp; with_reducible rfl) | (go_simp; done) | rfl)
    simp only [List.getElem_toArray, List.getElem_cons_succ, List.getElem_cons_zero, Act.put, List.setIfInBounds_toArray, List.set_cons_zero, List.set_cons_succ]
    refine anyZ_chain_at (by kernel_rfl) ?_
    simp only [List.drop_succ_cons, List.drop_zero]
    have hb3' : Below w2.heap.size w2 w3 := ⟨hb3.os, hb3.tape, hb3.output, hb3.size, hb3.block⟩
    have hy3 : Bytes w5 _ blank512 := ho3.bytes.below hb5
    have hy5 : Bytes w5 _ blank512 := ho5.bytes
    have ha3 := away_own ho3 (F := F) hd2'.lt
    have ha5 := away_own ho5 (F := F) (fun q h => Nat.lt_of_lt_of_le (hd2'.lt q h) hb3.size)
    have hd5 := (hd2'.below hb3').below hb5
    have hb05 := btr (btr hb02 hb3') hb5
    clear ho3 ho5 hb3 hb3' hb5 hd2' hb02
    have hn3 : w2.drew.heap.size = w2.heap.size := rfl
    rw [hn3] at hy3 ha3
    try rw [hn3]
    clear hn3
    generalize w2.heap.size = n2 at *
    generalize w3.heap.size = n3 at *
    have hy7 := hy5
    have hy8 := hy3
    have ha7 := ha5
    have ha8 := ha3
    clear hy3 hy5 ha3 ha5
    clear hcl2 hcl3 hcl4
    go_wp2
    go_loopw [7, 8, 9, 10, 29] (fun want last _ _ i wr => ∃ (m : Nat) (ps : List (List UInt8)) (W L : List UInt8) (G : Nat → Prop), i = .int .i64 m ∧ m ≤ ls.length ∧ (ps.length = m ∧ m ≤ 8) ∧ Hid (DiskAt wr g (ordD ps) G) ∧ Hid (W = keptOf keep 0 ps blank512) ∧ Hid (L = lastP ps) ∧ Hid (Bytes wr want W) ∧ Hid (Bytes wr last L) ∧ Hid (Away want G) ∧ Hid (Away last G) ∧ Hid (W.length = 512) ∧ Hid (L.length = 512) ∧ Hid (∀ q, G q → w.heap.size ≤ q) ∧ Below w.heap.size w wr) (fun _ _ _ _ i _ => ls.length - (intOf i).toNat)
    case atStart => exact ⟨0, [], blank512, blank512, F, rfl, by omega, ⟨rfl, by omega⟩, Lib.hid hd5, Lib.hid rfl, Lib.hid rfl, Lib.hid hy7, Lib.hid hy8, Lib.hid ha7, Lib.hid ha8, Lib.hid blank_len, Lib.hid blank_len, Lib.hid hF5, hb05⟩
    case round =>
      obtain ⟨m, ps, W, L, G, rfl, hm, ⟨hps, hm8⟩, HD, HW, HLL, HBW, HBL, HAW, HAL, HWLn, HLLn, HF, hb⟩ := hrel
      clear hd5 hy7 hy8 ha7 ha8 hF5 hb05
      by_cases hlt : m < ls.length
      · by_cases h8 : m < 8
        · clear hm8
          have hrow := HR.out
          obtain ⟨rg, ro, hra, hcell⟩ : ∃ rg ro, ra = some ⟨rg, ro, none⟩ ∧ ∀ (j : Nat) x, ls[j]? = some x → ∃ u, w.cell? ⟨rg, ro + j, none⟩ = some u ∧ Bytes w u x := by
            rcases hrow with h | h
            · rw [h] at hlt; simp at hlt
            · exact h
          subst hra
          obtain ⟨u, hu, hub⟩ := hcell m _ (List.getElem?_eq_getElem hlt)
          have hu' := (hb.cell (p := ⟨rg, ro + m, none⟩) (block_lt_of_cell hu)).trans hu
          have hub' := hub.below hb
          generalize ls[m] = q at *
          have HUB := Lib.hid hub'
          have hmi : (m : Int) < ls.length := by omega
          have hm8 : decide ((8 : Int) ≤ m) = false := by simp; omega
          clear hcell hrow hu hub hub'
          go_wp2_with fail
          refine (full_any u q wr HUB.out).mono ?_
          rintro e w6 ⟨vq, rfl, ho6, hb6⟩
          have hq6 := ho6.bytes
          have haq6 := away_own ho6 HD.out.lt
          have hd6 := HD.out.below hb6
          have hbw6 := HBW.out.below hb6
          have hbl6 := HBL.out.below hb6
          have hb06 := btr hb hb6
          have hQl := fullOf_length q
          have hQn := full_ne q
          generalize fullOf q = Q at *
          have HQL := Lib.hid hQl
          clear ho6 hb6 hQl
          have hpl : ps.length ≤ 8 := by omega
          go_wp2_with fail
          refine (write_ok g (ordD ps) G 1 vq Q w6 hd6 (by show 1 < 2; omega) rfl hq6 HQL.out (by show _ < (0 : Int); omega) (by show (0 : Int) ≤ _; omega) (by show ps.length ≤ _; omega) (by show (ps.map fun p => (1, p)).length ≤ _; rw [List.length_map]; omega)).mono ?_
          rintro e w7 ⟨G7, rfl, hd7, hm7⟩
          rw [ordD_snoc] at hd7
          obtain ⟨hq7, haq7⟩ := moved_bytes hm7 hq6 hQn haq6
          obtain ⟨hw7, haw7⟩ := moved_bytes hm7 hbw6 (fun h => by rw [h] at HWLn; exact absurd HWLn.out (by simp)) HAW.out
          have hb07 := hb06.trans (hm7.below hb06.size HF.out)
          have hF7 := hm7.ge hb06.size HF.out
          have hk2 := keptOf_snoc keep Q ps 0 blank512
          rw [Nat.zero_add, hps, ← HW.out] at hk2
          have HL2 := Lib.hid (show Q = lastP (ps ++ [Q]) from (lastP_snoc ps Q).symm)
          clear hm7 hq6 hd6 hbw6 hbl6 hb06 haq6
          by_cases hkp : keep.getD m false = true
          · have hkl : m < keep.length := by
              rcases Nat.lt_or_ge m keep.length with h | h
              · exact h
              · rw [List.getD_eq_getElem?_getD, List.getElem?_eq_none h] at hkp; cases hkp
            have hkb : keep[m]? = some true := by
              rw [List.getD_eq_getElem?_getD, List.getElem?_eq_getElem hkl] at hkp
              rw [List.getElem?_eq_getElem hkl]
              exact congrArg some hkp
            rw [if_pos hkp] at hk2
            have HK2 := Lib.hid hk2
            obtain ⟨kg, ko, hka, hkc⟩ : ∃ kg ko, ka = some ⟨kg, ko, none⟩ ∧ w7.cell? ⟨kg, ko + m, none⟩ = some (.bool true) := by
              rcases HKR.out with h | ⟨kg, ko, ha, hc⟩
              · rw [h] at hkl; simp at hkl
              · obtain ⟨u, hu, rfl⟩ := hc m true hkb
                exact ⟨kg, ko, ha, (hb07.cell (p := ⟨kg, ko + m, none⟩) (block_lt_of_cell hu)).trans hu⟩
            subst hka
            have hkl' : (m : Int) < keep.length := by omega
            clear hk2 hkp hkb
            go_wp2
            go_roundw
            case rel => first | exact ⟨m + 1, ps ++ [Q], Q, Q, G7, by go_num, by omega, ⟨by simp [hps], by omega⟩, Lib.hid hd7, Lib.hid HK2.out.symm, HL2, Lib.hid hq7, Lib.hid hq7, Lib.hid haq7, Lib.hid haq7, HQL, HQL, Lib.hid hF7, hb07⟩ | ((repeat apply Exists.intro); exact ⟨⟨m + 1, ps ++ [Q], Q, Q, G7, by go_num, by omega, ⟨by simp [hps], by omega⟩, Lib.hid hd7, Lib.hid HK2.out.symm, HL2, Lib.hid hq7, Lib.hid hq7, Lib.hid haq7, Lib.hid haq7, HQL, HQL, Lib.hid hF7, hb07⟩, rfl⟩)
            case measure => first | (simp [intOf]; done) | (simp [intOf]; omega)
          · rw [if_neg hkp] at hk2
            have HK2 := Lib.hid hk2
            by_cases hkl : m < keep.length
            · have hkb : keep[m]? = some false := by
                rw [List.getD_eq_getElem?_getD, List.getElem?_eq_getElem hkl] at hkp
                rw [List.getElem?_eq_getElem hkl]
                exact congrArg some (by simpa using hkp)
              obtain ⟨kg, ko, hka, hkc⟩ : ∃ kg ko, ka = some ⟨kg, ko, none⟩ ∧ w7.cell? ⟨kg, ko + m, none⟩ = some (.bool false) := by
                rcases HKR.out with h | ⟨kg, ko, ha, hc⟩
                · rw [h] at hkl; simp at hkl
                · obtain ⟨u, hu, rfl⟩ := hc m false hkb
                  exact ⟨kg, ko, ha, (hb07.cell (p := ⟨kg, ko + m, none⟩) (block_lt_of_cell hu)).trans hu⟩
              subst hka
              have hkl' : (m : Int) < keep.length := by omega
              clear hk2 hkp hkb
              go_wp2
              go_roundw
              case rel => first | exact ⟨m + 1, ps ++ [Q], W, Q, G7, by go_num, by omega, ⟨by simp [hps], by omega⟩, Lib.hid hd7, Lib.hid HK2.out.symm, HL2, Lib.hid hw7, Lib.hid hq7, Lib.hid haw7, Lib.hid haq7, HWLn, HQL, Lib.hid hF7, hb07⟩ | ((repeat apply Exists.intro); exact ⟨⟨m + 1, ps ++ [Q], W, Q, G7, by go_num, by omega, ⟨by simp [hps], by omega⟩, Lib.hid hd7, Lib.hid HK2.out.symm, HL2, Lib.hid hw7, Lib.hid hq7, Lib.hid haw7, Lib.hid haq7, HWLn, HQL, Lib.hid hF7, hb07⟩, rfl⟩)
              case measure => first | (simp [intOf]; done) | (simp [intOf]; omega)
            · have hkl' : (keep.length : Int) ≤ m := by omega
              clear hk2 hkp
              go_wp2
              go_roundw
              case rel => first | exact ⟨m + 1, ps ++ [Q], W, Q, G7, by go_num, by omega, ⟨by simp [hps], by omega⟩, Lib.hid hd7, Lib.hid HK2.out.symm, HL2, Lib.hid hw7, Lib.hid hq7, Lib.hid haw7, Lib.hid haq7, HWLn, HQL, Lib.hid hF7, hb07⟩ | ((repeat apply Exists.intro); exact ⟨⟨m + 1, ps ++ [Q], W, Q, G7, by go_num, by omega, ⟨by simp [hps], by omega⟩, Lib.hid hd7, Lib.hid HK2.out.symm, HL2, Lib.hid hw7, Lib.hid hq7, Lib.hid haw7, Lib.hid haq7, HWLn, HQL, Lib.hid hF7, hb07⟩, rfl⟩)
              case measure => first | (simp [intOf]; done) | (simp [intOf]; omega)
        · have hm9 : m = 8 := by omega
          subst hm9
          have hmi : (8 : Int) < ls.length := by omega
          have hra2 : ∃ rg ro, ra = some ⟨rg, ro, none⟩ ∧ ∃ u, wr.cell? ⟨rg, ro + 8, none⟩ = some u := by
            rcases HR.out with h | ⟨rg, ro, ha, hc⟩
            · rw [h] at hlt; simp at hlt
            · obtain ⟨u, hu, _⟩ := hc 8 _ (List.getElem?_eq_getElem hlt)
              exact ⟨rg, ro, ha, u, (hb.cell (p := ⟨rg, ro + 8, none⟩) (block_lt_of_cell hu)).trans hu⟩
          obtain ⟨rg, ro, hra, u, hu⟩ := hra2
          subst hra
          have HKW := Lib.hid (show lastP ps = L from HLL.out.symm)
          have hcs := ord_crash keep ps
          have hnow := ord_now ps
          have hsy := ord_synced ps
          have hpl : (ordD ps).wait.length ≤ 1000000 := by show (ps.map fun p => (1, p)).length ≤ _; rw [List.length_map]; omega
          rw [← HW.out] at hcs
          rw [← HLL.out] at hnow hsy
          have hcn1 : ((ordD ps).crashed keep).now 1 = W := by
            show (((ordD ps).crashed keep).safe).getD 1 [] = W
            rw [hcs]; rfl
          have hcn0 : ((ordD ps).crashed keep).now 0 = blank512 := by
            show (((ordD ps).crashed keep).safe).getD 0 [] = blank512
            rw [hcs]; rfl
          have hsn1 : (ordD ps).synced.now 1 = L := by
            show ((ordD ps).synced.safe).getD 1 [] = L
            rw [hsy]; rfl
          have hcl : ((ordD ps).crashed keep).safe.length = 2 := by rw [hcs]; rfl
          have hsl : (ordD ps).synced.safe.length = 2 := by rw [hsy]; rfl
          have hcw : ((ordD ps).crashed keep).wait = [] := rfl
          have hsw : (ordD ps).synced.wait = [] := rfl
          have HN := Lib.hid hnow
          have HC1 := Lib.hid hcn1
          have HC0 := Lib.hid hcn0
          have HS1 := Lib.hid hsn1
          have HCL := Lib.hid hcl
          have HSL := Lib.hid hsl
          have HCW := Lib.hid hcw
          have HSW := Lib.hid hsw
          clear hnow hcn1 hcn0 hsn1 hcl hsl hcw hsw hcs hsy
          go_wp2_with fail
          refine (crash_ok g (ordD ps) G _ keep wr HD.out (HK.out.below hb) hpl).mono ?_
          rintro e w6 ⟨gc, Fc, rfl, hdc6, hFc, hb6⟩
          have hd6 := HD.out.below hb6
          have hx6 := HBW.out.below hb6
          have hy6 := HBL.out.below hb6
          have hb06 := btr hb hb6
          have hcx : ∀ q, Fc q → ¬ G q := fun q h1 h2 => by have := hFc q h1; have := HD.out.lt q h2; omega
          generalize hdcg : (ordD ps).crashed keep = dc at *
          clear hdcg hb6 hFc
          go_wp2_with fail
          refine (dread_ok gc dc Fc 1 w6 hdc6 (by rw [HCL.out]; omega) (by rw [HCW.out]; simp)).mono ?_
          rintro e w7 ⟨x, rfl, hx7, hb7⟩
          have hxx := hx7.bytes
          rw [HC1.out] at hxx
          have hd7 := hd6.below hb7
          have hdc7 := hdc6.below hb7
          have hw7 := hx6.below hb7
          have hl7 := hy6.below hb7
          have hb07 := btr hb06 hb7
          have hax : Away x G := away_own hx7 hd6.lt
          clear hx7 hb7 hd6 hdc6 hx6 hy6 hb06
          go_wp2_with fail
          refine (dread_ok g (ordD ps) G 1 w7 hd7 (by show 1 < 2; omega) hpl).mono ?_
          rintro e w8 ⟨y, rfl, hy8, hb8⟩
          have hyy := hy8.bytes
          rw [HN.out] at hyy
          have hd8 := hd7.below hb8
          have hdc8 := hdc7.below hb8
          have hw8 := hw7.below hb8
          have hl8 := hl7.below hb8
          have hx8 := hxx.below hb8
          have hb08 := btr hb07 hb8
          have hay : Away y G := away_own hy8 hd7.lt
          clear hy8 hb8 hd7 hdc7 hw7 hl7 hxx hb07
          go_wp2_with fail
          refine (sync_ok g (ordD ps) G w8 hd8 rfl (by show _ < (0 : Int); omega) (by show (0 : Int) ≤ _; omega) hpl).mono ?_
          rintro e w9 ⟨G9, rfl, hd9, hm9⟩
          obtain ⟨hw9, _⟩ := moved_bytes hm9 hw8 (fun h => by rw [h] at HWLn; exact absurd HWLn.out (by simp)) HAW.out
          obtain ⟨hl9, _⟩ := moved_bytes hm9 hl8 (fun h => by rw [h] at HLLn; exact absurd HLLn.out (by simp)) HAL.out
          obtain ⟨hx9, _⟩ := moved_bytes hm9 hx8 (fun h => by rw [h] at HWLn; exact absurd HWLn.out (by simp)) hax
          obtain ⟨hy9, _⟩ := moved_bytes hm9 hyy (fun h => by rw [h] at HLLn; exact absurd HLLn.out (by simp)) hay
          obtain ⟨hdc9, _⟩ := moved_disk hm9 hdc8 hcx
          have hb09 := hb08.trans (hm9.below hb08.size HF.out)
          generalize (ordD ps).synced = ds at *
          clear hm9 hw8 hl8 hx8 hyy hdc8 hd8 hb08 hax hay
          go_wp2_with fail
          refine (dread_ok g ds G9 1 w9 hd9 (by rw [HSL.out]; omega) (by rw [HSW.out]; simp)).mono ?_
          rintro e w10 ⟨z, rfl, hz10, hb10⟩
          have hzz := hz10.bytes
          rw [HS1.out] at hzz
          have hd10 := hd9.below hb10
          have hdc10 := hdc9.below hb10
          have hw10 := hw9.below hb10
          have hl10 := hl9.below hb10
          have hx10 := hx9.below hb10
          have hy10 := hy9.below hb10
          have hb010 := btr hb09 hb10
          clear hz10 hb10 hd9 hdc9 hw9 hl9 hx9 hy9 hb09
          go_wp2_with fail
          refine (same_any _ _ _ _ w10 hx10 hw10).mono ?_
          rintro e w11 ⟨rfl, k11, rfl⟩
          rw [decide_eq_true (by rfl : (_ : List UInt8) = _)]
          have hb11 := bdn (bre w10) k11
          have hd11 := hd10.below hb11
          have hdc11 := hdc10.below hb11
          have hl11 := hl10.below hb11
          have hy11 := hy10.below hb11
          have hz11 := hzz.below hb11
          have hb011 := btr hb010 hb11
          clear hb11 hd10 hdc10 hw10 hl10 hx10 hy10 hzz hb010
          generalize w10.drewN k11 = w11 at *
          go_wp2_with fail
          refine (same_any _ _ _ _ w11 hy11 hl11).mono ?_
          rintro e w12 ⟨rfl, k12, rfl⟩
          rw [decide_eq_true (by rfl : (_ : List UInt8) = _)]
          have hb12 := bdn (bre w11) k12
          have hd12 := hd11.below hb12
          have hdc12 := hdc11.below hb12
          have hl12 := hl11.below hb12
          have hz12 := hz11.below hb12
          have hb012 := btr hb011 hb12
          clear hb12 hd11 hdc11 hl11 hy11 hz11 hb011
          generalize w11.drewN k12 = w12 at *
          go_wp2_with fail
          refine (same_any _ _ _ _ w12 hz12 hl12).mono ?_
          rintro e w13 ⟨rfl, k13, rfl⟩
          rw [decide_eq_true (by rfl : (_ : List UInt8) = _)]
          have hb13 := bdn (bre w12) k13
          have hd13 := hd12.below hb13
          have hdc13 := hdc12.below hb13
          have hb013 := btr hb012 hb13
          clear hb13 hd12 hdc12 hl12 hz12 hb012
          generalize w12.drewN k13 = w13 at *
          go_wp2_with fail
          refine (blank_ok gc dc Fc 0 w13 hdc13 (by rw [HCL.out]; omega) (by rw [HCW.out]; simp)).mono ?_
          rintro e w14 ⟨rfl, hb14⟩
          rw [HC0.out, decide_eq_true (by rfl : (_ : List UInt8) = _)]
          have hd14 := hd13.below hb14
          have hb014 := btr hb013 hb14
          clear hb14 hd13 hdc13 hb013
          go_wp2_with fail
          refine (waiting_any g ds G9 w14 hd14 (by rw [HSW.out]; simp)).mono ?_
          rintro e w15 ⟨v15, rfl, ho15, hb15⟩
          have hb015 := btr hb014 hb15
          rw [HSW.out] at ho15
          obtain ⟨a15, c15, rfl, _⟩ := ownsRow_lies ho15
          clear ho15 hb15 hd14 hb014
          go_wp2
          go_ret
          exact ⟨rfl, hb015⟩
      · have hml : m = ls.length := by omega
        subst hml
        have HKW := Lib.hid (show lastP ps = L from HLL.out.symm)
        have hcs := ord_crash keep ps
        have hnow := ord_now ps
        have hsy := ord_synced ps
        have hpl : (ordD ps).wait.length ≤ 1000000 := by show (ps.map fun p => (1, p)).length ≤ _; rw [List.length_map]; omega
        rw [← HW.out] at hcs
        rw [← HLL.out] at hnow hsy
        have hcn1 : ((ordD ps).crashed keep).now 1 = W := by
          show (((ordD ps).crashed keep).safe).getD 1 [] = W
          rw [hcs]; rfl
        have hcn0 : ((ordD ps).crashed keep).now 0 = blank512 := by
          show (((ordD ps).crashed keep).safe).getD 0 [] = blank512
          rw [hcs]; rfl
        have hsn1 : (ordD ps).synced.now 1 = L := by
          show ((ordD ps).synced.safe).getD 1 [] = L
          rw [hsy]; rfl
        have hcl : ((ordD ps).crashed keep).safe.length = 2 := by rw [hcs]; rfl
        have hsl : (ordD ps).synced.safe.length = 2 := by rw [hsy]; rfl
        have hcw : ((ordD ps).crashed keep).wait = [] := rfl
        have hsw : (ordD ps).synced.wait = [] := rfl
        have HN := Lib.hid hnow
        have HC1 := Lib.hid hcn1
        have HC0 := Lib.hid hcn0
        have HS1 := Lib.hid hsn1
        have HCL := Lib.hid hcl
        have HSL := Lib.hid hsl
        have HCW := Lib.hid hcw
        have HSW := Lib.hid hsw
        clear hnow hcn1 hcn0 hsn1 hcl hsl hcw hsw hcs hsy
        go_wp2_with fail
        refine (crash_ok g (ordD ps) G _ keep wr HD.out (HK.out.below hb) hpl).mono ?_
        rintro e w6 ⟨gc, Fc, rfl, hdc6, hFc, hb6⟩
        have hd6 := HD.out.below hb6
        have hx6 := HBW.out.below hb6
        have hy6 := HBL.out.below hb6
        have hb06 := btr hb hb6
        have hcx : ∀ q, Fc q → ¬ G q := fun q h1 h2 => by have := hFc q h1; have := HD.out.lt q h2; omega
        generalize hdcg : (ordD ps).crashed keep = dc at *
        clear hdcg hb6 hFc
        go_wp2_with fail
        refine (dread_ok gc dc Fc 1 w6 hdc6 (by rw [HCL.out]; omega) (by rw [HCW.out]; simp)).mono ?_
        rintro e w7 ⟨x, rfl, hx7, hb7⟩
        have hxx := hx7.bytes
        rw [HC1.out] at hxx
        have hd7 := hd6.below hb7
        have hdc7 := hdc6.below hb7
        have hw7 := hx6.below hb7
        have hl7 := hy6.below hb7
        have hb07 := btr hb06 hb7
        have hax : Away x G := away_own hx7 hd6.lt
        clear hx7 hb7 hd6 hdc6 hx6 hy6 hb06
        go_wp2_with fail
        refine (dread_ok g (ordD ps) G 1 w7 hd7 (by show 1 < 2; omega) hpl).mono ?_
        rintro e w8 ⟨y, rfl, hy8, hb8⟩
        have hyy := hy8.bytes
        rw [HN.out] at hyy
        have hd8 := hd7.below hb8
        have hdc8 := hdc7.below hb8
        have hw8 := hw7.below hb8
        have hl8 := hl7.below hb8
        have hx8 := hxx.below hb8
        have hb08 := btr hb07 hb8
        have hay : Away y G := away_own hy8 hd7.lt
        clear hy8 hb8 hd7 hdc7 hw7 hl7 hxx hb07
        go_wp2_with fail
        refine (sync_ok g (ordD ps) G w8 hd8 rfl (by show _ < (0 : Int); omega) (by show (0 : Int) ≤ _; omega) hpl).mono ?_
        rintro e w9 ⟨G9, rfl, hd9, hm9⟩
        obtain ⟨hw9, _⟩ := moved_bytes hm9 hw8 (fun h => by rw [h] at HWLn; exact absurd HWLn.out (by simp)) HAW.out
        obtain ⟨hl9, _⟩ := moved_bytes hm9 hl8 (fun h => by rw [h] at HLLn; exact absurd HLLn.out (by simp)) HAL.out
        obtain ⟨hx9, _⟩ := moved_bytes hm9 hx8 (fun h => by rw [h] at HWLn; exact absurd HWLn.out (by simp)) hax
        obtain ⟨hy9, _⟩ := moved_bytes hm9 hyy (fun h => by rw [h] at HLLn; exact absurd HLLn.out (by simp)) hay
        obtain ⟨hdc9, _⟩ := moved_disk hm9 hdc8 hcx
        have hb09 := hb08.trans (hm9.below hb08.size HF.out)
        generalize (ordD ps).synced = ds at *
        clear hm9 hw8 hl8 hx8 hyy hdc8 hd8 hb08 hax hay
        go_wp2_with fail
        refine (dread_ok g ds G9 1 w9 hd9 (by rw [HSL.out]; omega) (by rw [HSW.out]; simp)).mono ?_
        rintro e w10 ⟨z, rfl, hz10, hb10⟩
        have hzz := hz10.bytes
        rw [HS1.out] at hzz
        have hd10 := hd9.below hb10
        have hdc10 := hdc9.below hb10
        have hw10 := hw9.below hb10
        have hl10 := hl9.below hb10
        have hx10 := hx9.below hb10
        have hy10 := hy9.below hb10
        have hb010 := btr hb09 hb10
        clear hz10 hb10 hd9 hdc9 hw9 hl9 hx9 hy9 hb09
        go_wp2_with fail
        refine (same_any _ _ _ _ w10 hx10 hw10).mono ?_
        rintro e w11 ⟨rfl, k11, rfl⟩
        rw [decide_eq_true (by rfl : (_ : List UInt8) = _)]
        have hb11 := bdn (bre w10) k11
        have hd11 := hd10.below hb11
        have hdc11 := hdc10.below hb11
        have hl11 := hl10.below hb11
        have hy11 := hy10.below hb11
        have hz11 := hzz.below hb11
        have hb011 := btr hb010 hb11
        clear hb11 hd10 hdc10 hw10 hl10 hx10 hy10 hzz hb010
        generalize w10.drewN k11 = w11 at *
        go_wp2_with fail
        refine (same_any _ _ _ _ w11 hy11 hl11).mono ?_
        rintro e w12 ⟨rfl, k12, rfl⟩
        rw [decide_eq_true (by rfl : (_ : List UInt8) = _)]
        have hb12 := bdn (bre w11) k12
        have hd12 := hd11.below hb12
        have hdc12 := hdc11.below hb12
        have hl12 := hl11.below hb12
        have hz12 := hz11.below hb12
        have hb012 := btr hb011 hb12
        clear hb12 hd11 hdc11 hl11 hy11 hz11 hb011
        generalize w11.drewN k12 = w12 at *
        go_wp2_with fail
        refine (same_any _ _ _ _ w12 hz12 hl12).mono ?_
        rintro e w13 ⟨rfl, k13, rfl⟩
        rw [decide_eq_true (by rfl : (_ : List UInt8) = _)]
        have hb13 := bdn (bre w12) k13
        have hd13 := hd12.below hb13
        have hdc13 := hdc12.below hb13
        have hb013 := btr hb012 hb13
        clear hb13 hd12 hdc12 hl12 hz12 hb012
        generalize w12.drewN k13 = w13 at *
        go_wp2_with fail
        refine (blank_ok gc dc Fc 0 w13 hdc13 (by rw [HCL.out]; omega) (by rw [HCW.out]; simp)).mono ?_
        rintro e w14 ⟨rfl, hb14⟩
        rw [HC0.out, decide_eq_true (by rfl : (_ : List UInt8) = _)]
        have hd14 := hd13.below hb14
        have hb014 := btr hb013 hb14
        clear hb14 hd13 hdc13 hb013
        go_wp2_with fail
        refine (waiting_any g ds G9 w14 hd14 (by rw [HSW.out]; simp)).mono ?_
        rintro e w15 ⟨v15, rfl, ho15, hb15⟩
        have hb015 := btr hb014 hb15
        rw [HSW.out] at ho15
        obtain ⟨a15, c15, rfl, _⟩ := ownsRow_lies ho15
        clear ho15 hb15 hd14 hb014
        go_wp2
        go_ret
        exact ⟨rfl, hb015⟩
end Go.Proofs.Ytkonjjanoifinaa
