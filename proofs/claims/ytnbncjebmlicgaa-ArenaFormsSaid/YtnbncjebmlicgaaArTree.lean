/- Walk: Tree. -/
import Derived.Test.YtnbncjebmlicgaaPreB
namespace Go.Proofs.Ytnbncjebmlicgaa
open Go.RowKit

set_option maxRecDepth 20000 in
set_option maxHeartbeats 3200000 in
theorem artree_any (g b : Nat) (l : List (Nat × Nd)) (w : World) (h : ArAt w g b l) :
    Calls Try.prog 12 #[.pointer (some ⟨g, 0, none⟩)] w fun e w' => e = .returned (.bool (treeOf l)) ∧ Below w.heap.size w w' := by
  obtain ⟨T, hT⟩ : ∃ T, T = treeOf l := ⟨_, rfl⟩
  rw [← hT]
  have HT := Lib.hid hT
  have H := Lib.hid h
  have hmm := @run_makeMap Try.prog
  clear h hT
  go_enter Try.func12, Try.ntmps12
  go_wp2_with fail
  refine (arroot_any g w).mono ?_
  rintro e w0 ⟨rfl, hw⟩
  have hw' := hw.symm
  subst hw'
  clear hw
  go_wp2_with fail
  refine (arget_any g b l 1 w H.out (by decide)).mono ?_
  rintro e w1 ⟨v1, rfl, ho1, hb1⟩
  have H1 := Lib.hid (H.out.below hb1)
  have HB1 := Lib.hid hb1
  obtain ⟨kv, rfl, hk, ok⟩ := ho1
  obtain ⟨ka, kc, rfl⟩ := hk.slice
  unfold NdVal
  clear hb1 H hk ok
  obtain ⟨n, hn⟩ : ∃ n, n = atN l 1 := ⟨_, rfl⟩
  rw [← hn]
  have HN := Lib.hid hn
  obtain ⟨KL, hKL⟩ : ∃ q, q = n.kids.length := ⟨_, rfl⟩
  rw [← hKL]
  obtain ⟨bo, hbo⟩ : ∃ q, q = (getA l 1).isSome := ⟨_, rfl⟩
  rw [← hbo]
  have HBO := Lib.hid hbo
  clear hn hKL hbo
  go_upto_region 2 with fail
  have hb2 := bal (bre w1) (.cells #[.int .u8 n.kind, .string n.name, .int .i64 n.num, .int .u8 n.typ, .int .u64 n.ref, .slice ka KL kc] 29)
  have hr2 := heap_alloc_new w1 (.cells #[.int .u8 n.kind, .string n.name, .int .i64 n.num, .int .u8 n.typ, .int .u64 n.ref, .slice ka KL kc] 29)
  generalize w1.alloc (.cells #[.int .u8 n.kind, .string n.name, .int .i64 n.num, .int .u8 n.typ, .int .u64 n.ref, .slice ka KL kc] 29) = w2 at *
  obtain ⟨n3, hn3⟩ : ∃ q, q = w1.heap.size := ⟨_, rfl⟩
  rw [← hn3] at hr2 ⊢
  have hR2 : Row6 w2 n3 n (.slice ka KL kc) := hr2
  have y0 := hR2.c0
  have H2 := Lib.hid (H1.out.below hb2)
  have HB2 := Lib.hid (btr HB1.out hb2)
  clear hb2 hr2 hR2 hn3 H1 HB1
  cases bo with
  | false =>
    have hf : T = false := by
      rw [HT.out]
      unfold treeOf
      have := HBO.out
      cases hg : getA l 1 with
      | none => rfl
      | some r => rw [hg] at this; cases this
    subst hf
    go_wp2_with fail
    go_ret
    exact ⟨rfl, HB2.out⟩
  | true =>
    have hg : getA l 1 = some n := by
      have := HBO.out
      have h2 := HN.out
      unfold atN at h2
      cases hg : getA l 1 with
      | none => rw [hg] at this; cases this
      | some r => rw [hg] at h2; rw [h2]; rfl
    have HG := Lib.hid hg
    clear hg
    by_cases hk1 : n.kind = 1
    · have q1 : ((n.kind : Int) == 1) = true := beq_iff_eq.2 (by omega)
      have q2 : decide ((n.kind : Int) = 1) = true := decide_eq_true (by omega)
      have q3 : ((n.kind : Int) != 1) = false := by rw [bne, q1]; rfl
      have q4 : (n.kind : Int) = 1 := by omega
      obtain ⟨w3, hrun, hm3, ho3, hs3⟩ := (MapU.new (P := Try.prog) (k := 26) w2).store (t := 72) Try.underlying26 Try.underlying72 1 (by decide) (.int .i64 1) (by decide)
      replace hrun : (Instr.mapUpdate 72 (.map (some w2.heap.size)) (.int .u64 1) (.int .i64 1)).run Try.prog (w2.alloc (.map #[] 0)) = .ok () w3 := hrun
      have hb3 : Below w2.heap.size w2 w3 := (bal (bre w2) (.map #[] 0)).trans (ho3.below w2.heap.size (bal (bre w2) _).size fun i hi e => by omega)
      have H3 := Lib.hid (H2.out.below hb3)
      have HB3 := Lib.hid (btr HB2.out hb3)
      have HM3 : Hid (IntMap w3 w2.heap.size [(1, 1)]) := Lib.hid ⟨_, hm3, .cons ⟨rfl, rfl⟩ .nil⟩
      have hlt2 := H2.out.lt
      have HSZ := Lib.hid hs3
      clear hs3
      go_upto_region 5 with fail
      obtain ⟨bd, hbd⟩ : ∃ q, q = w2.heap.size := ⟨_, rfl⟩
      rw [← hbd]
      have HNE : Hid (g ≠ bd ∧ b ≠ bd ∧ w.heap.size ≤ bd) := Lib.hid ⟨by omega, by omega, by have := HB2.out.size; omega⟩
      rw [← hbd] at HM3
      clear hm3 ho3 hb3 hlt2 H2 HB2 y0 hrun hbd HSZ q1 q2 q3 q4
      clear hmm
      go_wp2_with fail
      obtain ⟨R, hR⟩ : ∃ R, R = bfsF l (2 * l.length + 3) [1] [(1, 1)] := ⟨_, rfl⟩
      have hRT : T = treeEnd l R := by rw [HT.out, hR]; exact treeOf_end HG.out hk1
      have hsub : ∀ p ∈ [((1 : Nat), (1 : Nat))], (getA l p.1).isSome = true := fun p hp => by
        rw [List.mem_singleton.1 hp]
        show (getA l 1).isSome = true
        rw [HG.out]; rfl
      have hst : TrSt w (w3.alloc (.cells #[.int .u64 1] 26)) g b bd l R (.slice (some ⟨w3.heap.size, 0, none⟩) 1 1) [1] [(1, 1)] :=
        ⟨H3.out.below (bal (bre w3) _), HM3.out.below (bal (bre w3) _), ids_one w3 1, fun x hx => by rw [List.mem_singleton.1 hx]; decide, hsub, ⟨_, hR.symm, by show 2 * (l.length + 1 - 1) + min 1 1 ≤ _; omega⟩, ⟨HNE.out.1, HNE.out.2.1⟩, HNE.out.2.2, btr HB3.out (bal (bre w3) _)⟩
      have HST := Lib.hid hst
      have HRT := Lib.hid hRT
      clear hR hRT hsub hst H3 HM3 HB3 HT HG hk1 HN HBO
      go_loopw [6, 7, 9, 11, 12, 13, 14, 15] (fun lvv _ _ _ _ _ _ _ wr => ∃ (lv : List Nat) (dl : List (Nat × Nat)), Hid (TrSt w wr g b bd l R lvv lv dl)) (fun lvv _ _ _ _ _ _ _ wr => 2 * (l.length + 1 - mapSize wr bd) + min (sliceLen lvv) 1)
      case atStart => exact ⟨[1], [(1, 1)], HST⟩
      case round =>
        clear HST
        rename World => wo
        obtain ⟨lv, dl, hst⟩ := hrel
        obtain ⟨la, lc, rfl⟩ := hst.out.lvl.slice
        obtain ⟨LV, hLV⟩ : ∃ q, q = lv.length := ⟨_, rfl⟩
        have hst' := hst.out
        rw [← hLV] at hst' ⊢
        have HST := Lib.hid hst'
        have HLV := Lib.hid hLV
        clear hst hst' hLV
        by_cases hlv : 0 < LV
        · have d1 : decide ((0 : Int) < (LV : Int)) = true := decide_eq_true (by omega)
          have d1n : decide (0 < LV) = true := decide_eq_true hlv
          have hLVb : LV ≤ 9223372036854775807 := by
            obtain ⟨_, _, -, hm9, -⟩ := HST.out.lvl
            rw [HLV.out]
            exact hm9
          obtain ⟨f, hf, hfl⟩ := HST.out.is
          obtain ⟨R2, hR2⟩ : ∃ q, q = levelF l lv dl [] := ⟨_, rfl⟩
          have hne : lv ≠ [] := fun e => by have := HLV.out; rw [e] at this; simp at this; omega
          have hfne : f ≠ 0 := by have := HLV.out; omega
          obtain ⟨f', rfl⟩ := Nat.exists_eq_succ_of_ne_zero hfne
          have hbr : bfsNext l f' R2 = R := by rw [← hf, hR2, bfsF_next hne]
          have hRN : R2 = none → T = false := fun e => by
            rw [e] at hbr
            have := HRT.out
            rw [← hbr] at this
            exact this
          have HBR := Lib.hid hbr
          have HRN := Lib.hid hRN
          have HFL := Lib.hid hfl
          have HR2 : Hid (levelF l (lv.drop 0) dl [] = R2) := Lib.hid (by rw [hR2]; rfl)
          have HIN : Hid (TrIn wo wo bd l (.slice none 0 0) [] dl dl) := Lib.hid ⟨Only.refl _ _, HST.out.mp, OwnIds.nil _ _, (fun x hx => nomatch hx), HST.out.sub, rfl⟩
          have hms : mapSize wo bd = dl.length := HST.out.mp.size
          have HMS := Lib.hid hms
          clear hf hfl hR2 hne hfne hbr hRN hms
          go_wp2_with fail
          go_loopw [7, 9, 11, 12, 13, 14, 15, 42] (fun nv _ _ _ _ _ _ i wx => ∃ (j : Nat) (dl' : List (Nat × Nat)) (nx : List Nat), i = .int .i64 j ∧ j ≤ LV ∧ Hid (TrIn wo wx bd l nv nx dl' dl) ∧ Hid (levelF l (lv.drop j) dl' nx = R2)) (fun _ _ _ _ _ _ _ i _ => LV - (intOf i).toNat)
          case atStart => exact ⟨0, dl, [], rfl, by omega, HIN, HR2⟩
          case round =>
            clear HIN HR2
            rename World => wm
            obtain ⟨j, dl', nx, rfl, hjL, hin, hlf⟩ := hrel
            by_cases hlt : j < LV
            · have d2 : decide ((j : Int) < (LV : Int)) = true := decide_eq_true (by omega)
              have d2n : decide (j < LV) = true := decide_eq_true hlt
              have hjl : j < lv.length := by rw [← HLV.out]; exact hlt
              obtain ⟨i, hi⟩ : ∃ i, lv[j]? = some i := ⟨_, List.getElem?_eq_getElem hjl⟩
              have hi64 := HST.out.lt i (List.mem_of_getElem? hi)
              obtain ⟨gb, ob, nn, cc, hla, hcell⟩ := HST.out.lvlIn hin.out j i hi
              have c0 := (HST.out.arIn hin.out).c0
              obtain ⟨kv, -, r1, hk, ok⟩ := HST.out.lookIn hin.out i hi64
              obtain ⟨ka2, kc2, rfl⟩ := hk.slice
              have hl2 := levelF_cons l lv j i dl' nx hi
              rw [hlf.out] at hl2
              obtain ⟨n2, hn2⟩ : ∃ q, q = atN l i := ⟨_, rfl⟩
              rw [← hn2] at r1 hk ok hl2
              obtain ⟨KL2, hKL2⟩ : ∃ q, q = n2.kids.length := ⟨_, rfl⟩
              unfold NdVal at r1
              rw [← hKL2] at r1 hk
              obtain ⟨R3, hR3⟩ : ∃ q, q = kidsF l i n2.kids dl' nx := ⟨_, rfl⟩
              rw [← hR3] at hl2
              have hR3N : R3 = none → T = false := fun e => HRN.out (by rw [hl2, e]; rfl)
              have HR3N := Lib.hid hR3N
              have HL2 := Lib.hid hl2
              have HK2 := Lib.hid hk
              have HOK2 := Lib.hid ok
              have HKL2 := Lib.hid hKL2
              have HI64 := Lib.hid hi64
              have HR3 : Hid (kidsF l i (n2.kids.drop 0) dl' nx = R3) := Lib.hid hR3.symm
              have HIN := hin
              have hka : la = some ⟨gb, ob, none⟩ := by injection hla
              subst hka
              clear hin hlf hjl hi hla hk ok hl2 hn2 hKL2 hR3 hR3N hi64
              have hKLb : KL2 ≤ 1000000 := by rw [HKL2.out]; exact HOK2.out.few
              have hfk := field_kids
              go_wp2_with fail
              clear r1 hcell c0 hfk
              go_loopw [7, 11, 12, 13, 14, 15, 54] (fun nv _ _ _ _ _ i' wx => ∃ (m : Nat) (dl2 : List (Nat × Nat)) (nx2 : List Nat), i' = .int .i64 m ∧ m ≤ KL2 ∧ Hid (TrIn wo wx bd l nv nx2 dl2 dl) ∧ Hid (kidsF l i (n2.kids.drop m) dl2 nx2 = R3)) (fun _ _ _ _ _ _ i' _ => KL2 - (intOf i').toNat)
              case atStart => exact ⟨0, dl', nx, rfl, by omega, HIN, HR3⟩
              case round =>
                clear HIN HR3
                rename World => wi
                obtain ⟨m, dl2, nx2, rfl, hmK, hin, hkf⟩ := hrel
                by_cases hlt2 : m < KL2
                · have d3 : decide ((m : Int) < (KL2 : Int)) = true := decide_eq_true (by omega)
                  have d3n : decide (m < KL2) = true := decide_eq_true hlt2
                  obtain ⟨k, hk⟩ : ∃ k, n2.kids[m]? = some k := ⟨_, List.getElem?_eq_getElem (by rw [← HKL2.out]; exact hlt2)⟩
                  have hk64 := HOK2.out.ids k (List.mem_of_getElem? hk)
                  have hkids : Ids wi (.slice ka2 n2.kids.length kc2) n2.kids := by
                    have h9 := HK2.out
                    rw [HKL2.out] at h9
                    exact (h9.only hin.out.only HST.out.notId).ids
                  obtain ⟨gk, ok', ck, hka, hcell⟩ := hkids.cell m k hk
                  have hka' : ka2 = some ⟨gk, ok', none⟩ := by injection hka
                  subst hka'
                  obtain ⟨kv3, r3, -, hk3, -⟩ := HST.out.lookIn hin.out k hk64
                  obtain ⟨ka3, kc3, rfl⟩ := hk3.slice
                  have c0 := (HST.out.arIn hin.out).c0
                  have hk2 := kidsF_cons l i n2.kids m k dl2 nx2 hk
                  rw [hkf.out] at hk2
                  obtain ⟨n4, hn4⟩ : ∃ q, q = atN l k := ⟨_, rfl⟩
                  rw [← hn4] at r3
                  unfold NdVal at r3
                  have HK64 := Lib.hid hk64
                  have HK2' := Lib.hid hk2
                  obtain ⟨Bt, hBt⟩ : ∃ q, q = (getA l k).isSome := ⟨_, rfl⟩
                  rw [← hBt] at r3
                  have HBT := Lib.hid hBt
                  clear hkf hk hk64 hkids hka hk3 hk2 hn4 hBt
                  go_upto_region 15 with fail
                  have hb5 := bal (bre wi) (.cells #[.int .u8 n4.kind, .string n4.name, .int .i64 n4.num, .int .u8 n4.typ, .int .u64 n4.ref, .slice ka3 n4.kids.length kc3] 29)
                  generalize wi.alloc (.cells #[.int .u8 n4.kind, .string n4.name, .int .i64 n4.num, .int .u8 n4.typ, .int .u64 n4.ref, .slice ka3 n4.kids.length kc3] 29) = w5 at *
                  have hin5 := hin.out.below hb5
                  obtain ⟨e1, -⟩ := hin5.mp.look k HK64.out
                  obtain ⟨-, e2⟩ := hin5.mp.look i HI64.out
                  have HB5 := Lib.hid hb5
                  have HIN5 := Lib.hid hin5
                  obtain ⟨A, hA⟩ : ∃ q, q = (getA dl2 k).isSome := ⟨_, rfl⟩
                  rw [← hA] at e1
                  obtain ⟨D, hD⟩ : ∃ q, q = (getA dl2 i).getD 0 := ⟨_, rfl⟩
                  rw [← hD] at e2
                  obtain ⟨X, hX⟩ : ∃ q, q = (getA dl2 k).getD 0 := ⟨_, rfl⟩
                  rw [← hX] at e1
                  have hk2 := HK2'.out
                  rw [← hA, ← HBT.out, ← hD] at hk2
                  have HA := Lib.hid hA
                  have HD := Lib.hid hD
                  have HKF := Lib.hid hk2
                  clear hb5 hin5 hA hD hX hk2 r3 c0 hcell HK2'
                  cases A with
                  | true =>
                    have hT := HR3N.out (by rw [HKF.out, if_pos (.inl rfl)])
                    have HBL := Lib.hid (HST.out.belIn HIN5.out)
                    subst hT
                    go_wp2_with fail
                    go_ret
                    exact ⟨rfl, HBL.out⟩
                  | false =>
                    cases Bt with
                    | false =>
                      have hT := HR3N.out (by rw [HKF.out, if_pos (.inr (.inl rfl))])
                      have HBL := Lib.hid (HST.out.belIn HIN5.out)
                      subst hT
                      go_wp2_with fail
                      go_ret
                      exact ⟨rfl, HBL.out⟩
                    | true =>
                      by_cases hD2 : 200 ≤ D
                      · have d5 : decide ((200 : Int) ≤ (D : Int)) = true := decide_eq_true (by omega)
                        have d5n : decide (200 ≤ D) = true := decide_eq_true hD2
                        have hT := HR3N.out (by rw [HKF.out, if_pos (.inr (.inr hD2))])
                        have HBL := Lib.hid (HST.out.belIn HIN5.out)
                        subst hT
                        go_wp2_with fail
                        go_ret
                        exact ⟨rfl, HBL.out⟩
                      · have d5 : decide ((200 : Int) ≤ (D : Int)) = false := decide_eq_false (by omega)
                        have d5n : decide (200 ≤ D) = false := decide_eq_false hD2
                        obtain ⟨D1, hD1⟩ : ∃ q, q = D + 1 := ⟨_, rfl⟩
                        have t1 : (D : Int) + 1 = (D1 : Int) := by omega
                        have t2 : IntKind.i64.wrap (D1 : Int) = (D1 : Int) := by rw [IntKind.wrap_i64]; omega
                        have hkn : getA dl2 k = none := by
                          have := HA.out
                          cases hg : getA dl2 k with
                          | none => rfl
                          | some v => rw [hg] at this; cases this
                        have hlen2 : dl2.length ≤ l.length := sub_len HIN5.out.mp.asc HST.out.ar.asc HIN5.out.sub
                        have hfew := HST.out.ar.few
                        obtain ⟨w6, hrun, hm6, ho6, hs6⟩ := HIN5.out.mp.store k HK64.out D1 (by omega)
                        have hnxl : nx2.length ≤ 20000 := by have := HIN5.out.len; omega
                        have hown6 : OwnIds wo.heap.size w6 _ nx2 := HIN5.out.own.only ho6 (fun q hq cs fr e => by
                          obtain ⟨es, cc, hmm⟩ := HIN5.out.mp.isMap
                          subst hq
                          rw [hmm] at e
                          cases e)
                        have hk3 := HKF.out
                        rw [if_neg (by rintro (h | h | h); cases h; cases h; exact hD2 h), ← hD1] at hk3
                        have HKF3 := Lib.hid hk3.symm
                        have HKN := Lib.hid hkn
                        have HM6 := Lib.hid hm6
                        have HO6 := Lib.hid ho6
                        have HOW6 := Lib.hid hown6
                        have HNX := Lib.hid hnxl
                        have HBDL : Hid (bd < wo.heap.size) := Lib.hid (by
                          obtain ⟨dv, g1, -⟩ := HST.out.mp
                          exact g1.lt)
                        have HSZ6 : Hid (wo.heap.size ≤ w6.heap.size) := Lib.hid (Nat.le_trans HIN5.out.only.size (by omega))
                        clear hD1 hD2 hkn hlen2 hfew hm6 ho6 hs6 hnxl hown6 hk3 HKF
                        go_wp2_with (at_builtin; refine wpList_app rfl _ _ 27 26 1 8 rowI rfl wo.heap.size _ nx2.length (nx2.map U64) rfl (World.ownsRow.alloc HOW6.out _) _ 1 1 [U64 k] rfl rfl (lies_one _ _ _) (Nat.le_refl _) (fun h => by cases h) (by simp [Value.oneCell', U64]) (by unfold maxLen; have := HNX.out; omega) (by have := HNX.out; omega) (Nat.le_trans HSZ6.out (bal (bre _) _).size) ?_; intro v7 w7 ho7 _ hb7)
                        have hown7 : OwnIds wo.heap.size w7 v7 (nx2 ++ [k]) := by unfold OwnIds; rw [List.length_append, List.map_append]; exact ho7
                        have hb67 : Below wo.heap.size w6 w7 := ((Below.refl wo.heap.size w6).alloc HSZ6.out _).trans hb7
                        have hin7 := HIN5.out.more (bre w5) HO6.out HM6.out hb67 HBDL.out hown7 HK64.out HBT.out.symm HKN.out
                        have HIN7 := Lib.hid hin7
                        have HKF7 : Hid (kidsF l i (n2.kids.drop (m + 1)) (putA dl2 k D1) (nx2 ++ [k]) = R3) := Lib.hid HKF3.out
                        clear hown7 hb67 hin7 ho7 hb7
                        go_roundw
                        case rel => exact ⟨m + 1, putA dl2 k D1, nx2 ++ [k], by go_num, by omega, HIN7, HKF7⟩
                        case measure => simp [intOf]; omega
                · have d3 : decide ((m : Int) < (KL2 : Int)) = false := decide_eq_false (by omega)
                  have d3n : decide (m < KL2) = false := decide_eq_false hlt2
                  have hem : m = KL2 := by omega
                  have hR3s : R3 = some (dl2, nx2) := by
                    rw [← hkf.out, hem, HKL2.out, List.drop_length, kidsF]
                  have HLF : Hid (levelF l (lv.drop (j + 1)) dl2 nx2 = R2) := Lib.hid (by rw [HL2.out, hR3s]; rfl)
                  have HIN := hin
                  clear hkf hR3s hem hin
                  go_wp2_with fail
                  go_roundw
                  case rel => exact ⟨j + 1, dl2, nx2, by go_num, by omega, HIN, HLF⟩
                  case measure => simp [intOf]; omega
            · have d2 : decide ((j : Int) < (LV : Int)) = false := decide_eq_false (by omega)
              have d2n : decide (j < LV) = false := decide_eq_false hlt
              have hej : j = LV := by omega
              have hR2s : R2 = some (dl', nx) := by
                rw [← hlf.out, hej, HLV.out, List.drop_length, levelF]
              have hbf : bfsF l f' nx dl' = R := by rw [← HBR.out, hR2s]; rfl
              have hnx := HST.out.next hin.out hbf (by have := HFL.out; have := HLV.out; omega)
              obtain ⟨an, cn, rfl⟩ := hin.out.own.slice
              have HNX1 := Lib.hid hnx.1
              have HNX2 := Lib.hid hnx.2
              clear hlf hR2s hej hin hbf hnx
              go_wp2_with fail
              go_roundw
              case rel => exact ⟨nx, dl', HNX1⟩
              case measure => have := HNX2.out; show 2 * (l.length + 1 - mapSize wm bd) + min nx.length 1 < 2 * (l.length + 1 - mapSize wo bd) + min LV 1; omega
        · have d1 : decide ((0 : Int) < (LV : Int)) = false := decide_eq_false (by omega)
          have d1n : decide (0 < LV) = false := decide_eq_false hlv
          have hlv0 : lv = [] := List.length_eq_zero_iff.1 (by rw [← HLV.out]; omega)
          have hRs := HST.out.done hlv0
          have hTs : T = (refsB l && decide (dl.length = l.length)) := by rw [HRT.out, hRs]; rfl
          have c0 := HST.out.ar.c0
          obtain ⟨wr, vl, hrun, h0, hb0, hs0⟩ := HST.out.ar.range
          obtain ⟨r, hr⟩ : ∃ r, r = wo.heap.size := ⟨_, rfl⟩
          rw [← hr] at hrun h0
          have H0 := Lib.hid h0
          have HM0 := Lib.hid (HST.out.mp.below hb0)
          have HB0 := Lib.hid (btr HST.out.bel hb0)
          have HTS := Lib.hid hTs
          have HRL : Hid (w.heap.size ≤ r ∧ ¬ bd = r) := Lib.hid ⟨by have := HST.out.bel.size; omega, fun e => by obtain ⟨dv, g1, -⟩ := HST.out.mp; have := g1.lt; omega⟩
          clear hlv0 hRs hTs h0 hb0 hs0 hr HST HLV HRT
          go_wp2_with fail
          clear hrun c0
          go_loopw [17, 18, 19] (fun _ _ _ wr => ∃ left, Hid (ArRng wr g b r l vl left) ∧ Hid (IntMap wr bd dl) ∧ Hid (Below w.heap.size w wr) ∧ Hid (∀ p ∈ l, left p.1 = false → (p.2.ref == 0 || (getA l p.2.ref).isSome) = true)) (fun _ _ _ wr => wr.rangeLeft b r)
          case atStart => exact ⟨fun _ => true, H0, HM0, HB0, Lib.hid fun p _ h => by cases h⟩
          case round =>
            clear H0 HM0 HB0
            rename World => wr
            obtain ⟨left, har, him, hbl, hdone⟩ := hrel
            rcases har.out.next with ⟨hend, hnx⟩ | ⟨p, kv, w1', hp, hl, hnx, hk, ok, h64, har1, hlt, ho, hs, hen⟩
            · have hall : refsB l = true := List.all_eq_true.2 fun p hp => hdone.out p hp (hend p hp)
              obtain ⟨DL, hDL⟩ : ∃ q, q = dl.length := ⟨_, rfl⟩
              obtain ⟨LL, hLL⟩ : ∃ q, q = l.length := ⟨_, rfl⟩
              have hts := HTS.out
              rw [hall, ← hDL, ← hLL, Bool.true_and] at hts
              have hlen1 := fun ty => (him.out.below (bdr (bre wr))).len ty
              have hlen2 := fun ty => (har.out.ar.below (bdr (bre wr))).len ty
              rw [← hDL] at hlen1
              rw [← hLL] at hlen2
              have c0 := har.out.ar.c0
              have hdec : decide ((DL : Int) = (LL : Int)) = decide (DL = LL) := decide_eq_decide.2 ⟨fun h => by omega, fun h => by omega⟩
              have hbe : ((DL : Int) == (LL : Int)) = decide (DL = LL) := by rw [Bool.eq_iff_iff]; simp; omega
              have HTS2 := Lib.hid hts
              clear hall hend hdone him har hts hDL hLL
              go_upto_region 29 with fail
              refine region_anyZ (z := 6) (S := fun w' => (w'.cell? ⟨g, 0, none⟩ = some (.map (some b)) ∧ ∀ ty, (Builtin.len_ #[72] ty #[.map (some bd)]).run Try.prog w' = .ok (.int .i64 (DL : Int)) w')) (by kernel_rfl) ?_
              refine anyZ_begin (fun hcl0 => ?_)
              refine anyZ_held (by exact ⟨c0, hlen1⟩) (fun hHeld => ?_)
              -- 0: Op.move (Operand.tmp 5)
              refine' anyZ_pure (i := 0) (v := _) rfl (by rfl) (by kernel_rfl) (by kernel_rfl) (by kernel_rfl) hcl0 (fun _ _ _ h => h) (Or.inl ⟨by rfl, fun w _ => ?hy1⟩) (fun _ => hHeld) (fun hcl1 => ?ry1)
              case hy1 => (simp only [List.getElem_toArray, List.getElem_cons_zero]; first | (go_simp; with_reducible rfl) | (go_simp; done) | rfl)
              simp only [List.getElem_toArray, List.getElem_cons_zero, Act.put, List.setIfInBounds_toArray, List.set_cons_zero, List.set_cons_succ]
              -- 1: Op.call { callee := Callee.builtin Builtin.len, args := #[Op
              refine' anyZ_take (i := 1) (v := _) rfl (by rfl) (by kernel_rfl) (by kernel_rfl) (by kernel_rfl) hcl1 8 (by kernel_rfl) (by kernel_rfl) (fun _ _ _ h => h) (Or.inl ⟨by rfl, fun w hSw => ?hy2⟩) hHeld (fun hcl2 => ?ry2)
              case hy2 => (simp only [List.getElem_toArray, List.getElem_cons_succ, List.getElem_cons_zero]; obtain ⟨hS1, hS2⟩ := hSw; first | (go_simp; with_reducible rfl) | (go_simp; done) | rfl)
              simp only [List.getElem_toArray, List.getElem_cons_succ, List.getElem_cons_zero, Act.put, List.setIfInBounds_toArray, List.set_cons_zero, List.set_cons_succ]
              -- 2: Op.move (Operand.tmp 0)
              refine' anyZ_pure (i := 2) (v := _) rfl (by rfl) (by kernel_rfl) (by kernel_rfl) (by kernel_rfl) hcl2 (fun _ _ _ h => h) (Or.inl ⟨by rfl, fun w _ => ?hy3⟩) (fun _ => hHeld) (fun hcl3 => ?ry3)
              case hy3 => (simp only [List.getElem_toArray, List.getElem_cons_succ, List.getElem_cons_zero]; first | (go_simp; with_reducible rfl) | (go_simp; done) | rfl)
              simp only [List.getElem_toArray, List.getElem_cons_succ, List.getElem_cons_zero, Act.put, List.setIfInBounds_toArray, List.set_cons_zero, List.set_cons_succ]
              -- 3: Op.nilCheck (Operand.tmp 125)
              refine' anyZ_pure (i := 3) (v := _) rfl (by rfl) (by kernel_rfl) (by kernel_rfl) (by kernel_rfl) hcl3 (fun _ _ _ h => h) (Or.inl ⟨by rfl, fun w _ => ?hy4⟩) (fun _ => hHeld) (fun hcl4 => ?ry4)
              case hy4 => (simp only [List.getElem_toArray, List.getElem_cons_succ, List.getElem_cons_zero]; first | (go_simp; with_reducible rfl) | (go_simp; done) | rfl)
              simp only [List.getElem_toArray, List.getElem_cons_succ, List.getElem_cons_zero, Act.put, List.setIfInBounds_toArray, List.set_cons_zero, List.set_cons_succ]
              -- 4: Op.fieldAddr 70 (Operand.tmp 126) 0
              refine' anyZ_pure (i := 4) (v := _) rfl (by rfl) (by kernel_rfl) (by kernel_rfl) (by kernel_rfl) hcl4 (fun _ _ _ h => h) (Or.inl ⟨by rfl, fun w _ => ?hy5⟩) (fun _ => hHeld) (fun hcl5 => ?ry5)
              case hy5 => (simp only [List.getElem_toArray, List.getElem_cons_succ, List.getElem_cons_zero]; first | (go_simp; with_reducible rfl) | (go_simp; done) | rfl)
              simp only [List.getElem_toArray, List.getElem_cons_succ, List.getElem_cons_zero, Act.put, List.setIfInBounds_toArray, List.set_cons_zero, List.set_cons_succ]
              -- 5: Op.load 68 (Operand.tmp 127)
              refine' anyZ_take (i := 5) (v := _) rfl (by rfl) (by kernel_rfl) (by kernel_rfl) (by kernel_rfl) hcl5 8 (by kernel_rfl) (by kernel_rfl) (fun _ _ _ h => h) (Or.inl ⟨by rfl, fun w hSw => ?hy6⟩) hHeld (fun hcl6 => ?ry6)
              case hy6 => (simp only [List.getElem_toArray, List.getElem_cons_succ, List.getElem_cons_zero]; obtain ⟨hS1, hS2⟩ := hSw; first | (go_simp; with_reducible rfl) | (go_simp; done) | rfl)
              simp only [List.getElem_toArray, List.getElem_cons_succ, List.getElem_cons_zero, Act.put, List.setIfInBounds_toArray, List.set_cons_zero, List.set_cons_succ]
              clear hHeld
              refine anyZ_chain_at (by kernel_rfl) ?_
              simp only [List.drop_succ_cons, List.drop_zero]
              go_wp2_with fail
              go_ret
              refine ⟨?_, hbl.out.drew⟩
              rw [HTS2.out, ← hbe]
              rfl
            · have hbw : Below w.heap.size w w1' := hbl.out.trans (ho.below w.heap.size hbl.out.size fun i hi e => by have := HRL.out.1; omega)
              have HAR1 := Lib.hid har1
              have HB1 := Lib.hid hbw
              have HM1 := Lib.hid (him.out.only ho HRL.out.2)
              have HLT := Lib.hid hlt
              obtain ⟨ka9, kc9, rfl⟩ := hk.slice
              obtain ⟨pk, n9⟩ := p
              have HDONE : Hid ((n9.ref == 0 || (getA l n9.ref).isSome) = true → ∀ p ∈ l, (left p.1 && !(p.1 == pk)) = false → (p.2.ref == 0 || (getA l p.2.ref).isSome) = true) := Lib.hid fun hr p hp' hlf => by
                cases hleft : left p.1 with
                | false => exact hdone.out p hp' hleft
                | true =>
                  rw [hleft] at hlf
                  have he : p.1 = pk := by simpa using hlf
                  have := asc_key HAR1.out.ar.asc hp' hp he
                  rw [this]
                  exact hr
              have HBAD : Hid ((n9.ref == 0 || (getA l n9.ref).isSome) = false → T = false) := Lib.hid fun hr => by
                rw [HTS.out]
                have : refsB l = false := by
                  unfold refsB
                  rw [List.all_eq_false]
                  exact ⟨_, hp, by rw [hr]; decide⟩
                rw [this]; rfl
              have HOK9 := Lib.hid ok
              unfold NdVal at hnx hen
              clear har1 hbw him hlt hdone har hbl hp hl ho hs hk ok
              obtain ⟨KL9, hKL9⟩ : ∃ q, q = n9.kids.length := ⟨_, rfl⟩
              replace hnx : _ = Result.ok (Value.tuple #[.bool true, .int .u64 (pk : Int), .agg #[.int .u8 n9.kind, .string n9.name, .int .i64 n9.num, .int .u8 n9.typ, .int .u64 n9.ref, .slice ka9 n9.kids.length kc9]]) w1' := hnx
              replace hen : _ = Result.ok (Value.tuple #[.int .u64 (pk : Int), .agg #[.int .u8 n9.kind, .string n9.name, .int .i64 n9.num, .int .u8 n9.typ, .int .u64 n9.ref, .slice ka9 n9.kids.length kc9]]) w1' := hen
              rw [← hKL9] at hnx hen
              clear hKL9
              go_upto_region 26 with fail
              have hbq := bal (bre w1') (.cells #[.int .u8 n9.kind, .string n9.name, .int .i64 n9.num, .int .u8 n9.typ, .int .u64 n9.ref, .slice ka9 KL9 kc9] 29)
              have hrq := heap_alloc_new w1' (.cells #[.int .u8 n9.kind, .string n9.name, .int .i64 n9.num, .int .u8 n9.typ, .int .u64 n9.ref, .slice ka9 KL9 kc9] 29)
              generalize w1'.alloc (.cells #[.int .u8 n9.kind, .string n9.name, .int .i64 n9.num, .int .u8 n9.typ, .int .u64 n9.ref, .slice ka9 KL9 kc9] 29) = wq at *
              obtain ⟨n17, hn17⟩ : ∃ q, q = w1'.heap.size := ⟨_, rfl⟩
              rw [← hn17] at hrq ⊢
              have hRq : Row6 wq n17 n9 (.slice ka9 KL9 kc9) := hrq
              have HRQ := Lib.hid hRq
              have HARQ := Lib.hid (HAR1.out.below hbq)
              have HBQ := Lib.hid (HB1.out.trans (hbq.mono HB1.out.size))
              have HMQ := Lib.hid (HM1.out.below hbq)
              obtain ⟨ka5, nn5, kc5, hlk⟩ := HARQ.out.1.lookB n9.ref HOK9.out.ref
              obtain ⟨n5, hn5⟩ : ∃ q, q = atN l n9.ref := ⟨_, rfl⟩
              obtain ⟨ro, hro⟩ : ∃ q, q = (getA l n9.ref).isSome := ⟨_, rfl⟩
              rw [← hn5, ← hro] at hlk
              have HRO := Lib.hid hro
              unfold NdVal at hlk
              have HSB : Hid (∀ w', Below wq.heap.size wq w' → (w'.cell? ⟨g, 0, none⟩ = some (.map (some b)) ∧ w'.cell? ⟨n17, 4, none⟩ = some (.int .u64 n9.ref) ∧ (Instr.lookup 68 (.map (some b)) (.int .u64 n9.ref) true).run Try.prog w' = .ok (.tuple #[.agg #[.int .u8 n5.kind, .string n5.name, .int .i64 n5.num, .int .u8 n5.typ, .int .u64 n5.ref, .slice ka5 nn5 kc5], .bool ro]) w')) := Lib.hid fun w' hb => ⟨(HARQ.out.1.ar.below hb).c0, (HRQ.out.below hb).c4, hlk w' hb⟩
              clear hbq hrq hRq hn17 hlk hn5 hro hnx hen HAR1 HB1 HM1
              refine region_anyZ (z := 12) (S := fun w' => (w'.cell? ⟨g, 0, none⟩ = some (.map (some b)) ∧ w'.cell? ⟨n17, 4, none⟩ = some (.int .u64 n9.ref) ∧ (Instr.lookup 68 (.map (some b)) (.int .u64 n9.ref) true).run Try.prog w' = .ok (.tuple #[.agg #[.int .u8 n5.kind, .string n5.name, .int .i64 n5.num, .int .u8 n5.typ, .int .u64 n5.ref, .slice ka5 nn5 kc5], .bool ro]) w')) (by kernel_rfl) ?_
              refine anyZ_begin (fun hcl0 => ?_)
              refine anyZ_held (by exact HSB.out _ (bdr (bre wq))) (fun hHeld => ?_)
              -- 0: Op.move (Operand.tmp 0)
              refine' anyZ_pure (i := 0) (v := _) rfl (by rfl) (by kernel_rfl) (by kernel_rfl) (by kernel_rfl) hcl0 (fun _ _ _ h => h) (Or.inl ⟨by rfl, fun w _ => ?hx1⟩) (fun _ => hHeld) (fun hcl1 => ?rx1)
              case hx1 => (simp only [List.getElem_toArray, List.getElem_cons_zero]; first | (go_simp; with_reducible rfl) | (go_simp; done) | rfl)
              simp only [List.getElem_toArray, List.getElem_cons_zero, Act.put, List.setIfInBounds_toArray, List.set_cons_zero, List.set_cons_succ]
              -- 1: Op.nilCheck (Operand.tmp 107)
              refine' anyZ_pure (i := 1) (v := _) rfl (by rfl) (by kernel_rfl) (by kernel_rfl) (by kernel_rfl) hcl1 (fun _ _ _ h => h) (Or.inl ⟨by rfl, fun w _ => ?hx2⟩) (fun _ => hHeld) (fun hcl2 => ?rx2)
              case hx2 => (simp only [List.getElem_toArray, List.getElem_cons_succ, List.getElem_cons_zero]; first | (go_simp; with_reducible rfl) | (go_simp; done) | rfl)
              simp only [List.getElem_toArray, List.getElem_cons_succ, List.getElem_cons_zero, Act.put, List.setIfInBounds_toArray, List.set_cons_zero, List.set_cons_succ]
              -- 2: Op.fieldAddr 70 (Operand.tmp 108) 0
              refine' anyZ_pure (i := 2) (v := _) rfl (by rfl) (by kernel_rfl) (by kernel_rfl) (by kernel_rfl) hcl2 (fun _ _ _ h => h) (Or.inl ⟨by rfl, fun w _ => ?hx3⟩) (fun _ => hHeld) (fun hcl3 => ?rx3)
              case hx3 => (simp only [List.getElem_toArray, List.getElem_cons_succ, List.getElem_cons_zero]; first | (go_simp; with_reducible rfl) | (go_simp; done) | rfl)
              simp only [List.getElem_toArray, List.getElem_cons_succ, List.getElem_cons_zero, Act.put, List.setIfInBounds_toArray, List.set_cons_zero, List.set_cons_succ]
              -- 3: Op.load 68 (Operand.tmp 109)
              refine' anyZ_take (i := 3) (v := _) rfl (by rfl) (by kernel_rfl) (by kernel_rfl) (by kernel_rfl) hcl3 10 (by kernel_rfl) (by kernel_rfl) (fun _ _ _ h => h) (Or.inl ⟨by rfl, fun w hSw => ?hx4⟩) hHeld (fun hcl4 => ?rx4)
              case hx4 => (simp only [List.getElem_toArray, List.getElem_cons_succ, List.getElem_cons_zero]; obtain ⟨hS1, hS2, hS3⟩ := hSw; first | (go_simp; with_reducible rfl) | (go_simp; done) | rfl)
              simp only [List.getElem_toArray, List.getElem_cons_succ, List.getElem_cons_zero, Act.put, List.setIfInBounds_toArray, List.set_cons_zero, List.set_cons_succ]
              -- 4: Op.fieldAddr 29 (Operand.tmp 17) 4
              refine' anyZ_pure (i := 4) (v := _) rfl (by rfl) (by kernel_rfl) (by kernel_rfl) (by kernel_rfl) hcl4 (fun _ _ _ h => h) (Or.inl ⟨by rfl, fun w _ => ?hx5⟩) (fun _ => hHeld) (fun hcl5 => ?rx5)
              case hx5 => (simp only [List.getElem_toArray, List.getElem_cons_succ, List.getElem_cons_zero]; first | (go_simp; with_reducible rfl) | (go_simp; done) | rfl)
              simp only [List.getElem_toArray, List.getElem_cons_succ, List.getElem_cons_zero, Act.put, List.setIfInBounds_toArray, List.set_cons_zero, List.set_cons_succ]
              -- 5: Op.load 26 (Operand.tmp 111)
              refine' anyZ_take (i := 5) (v := _) rfl (by rfl) (by kernel_rfl) (by kernel_rfl) (by kernel_rfl) hcl5 10 (by kernel_rfl) (by kernel_rfl) (fun _ _ _ h => h) (Or.inl ⟨by rfl, fun w hSw => ?hx6⟩) hHeld (fun hcl6 => ?rx6)
              case hx6 => (simp only [List.getElem_toArray, List.getElem_cons_succ, List.getElem_cons_zero]; obtain ⟨hS1, hS2, hS3⟩ := hSw; first | (go_simp; with_reducible rfl) | (go_simp; done) | rfl)
              simp only [List.getElem_toArray, List.getElem_cons_succ, List.getElem_cons_zero, Act.put, List.setIfInBounds_toArray, List.set_cons_zero, List.set_cons_succ]
              -- 6: Op.lookup 68 (Operand.tmp 110) (Operand.tmp 112) true
              refine' anyZ_take (i := 6) (v := _) rfl (by rfl) (by kernel_rfl) (by kernel_rfl) (by kernel_rfl) hcl6 10 (by kernel_rfl) (by kernel_rfl) (fun _ _ _ h => h) (Or.inl ⟨by rfl, fun w hSw => ?hx7⟩) hHeld (fun hcl7 => ?rx7)
              case hx7 => (simp only [List.getElem_toArray, List.getElem_cons_succ, List.getElem_cons_zero]; obtain ⟨hS1, hS2, hS3⟩ := hSw; first | (go_simp; with_reducible rfl) | (go_simp; done) | rfl)
              simp only [List.getElem_toArray, List.getElem_cons_succ, List.getElem_cons_zero, Act.put, List.setIfInBounds_toArray, List.set_cons_zero, List.set_cons_succ]
              -- 7: Op.move (Operand.tmp 113)
              refine' anyZ_pure (i := 7) (v := _) rfl (by rfl) (by kernel_rfl) (by kernel_rfl) (by kernel_rfl) hcl7 (fun _ _ _ h => h) (Or.inl ⟨by rfl, fun w _ => ?hx8⟩) (fun _ => hHeld) (fun hcl8 => ?rx8)
              case hx8 => (simp only [List.getElem_toArray, List.getElem_cons_succ, List.getElem_cons_zero]; first | (go_simp; with_reducible rfl) | (go_simp; done) | rfl)
              simp only [List.getElem_toArray, List.getElem_cons_succ, List.getElem_cons_zero, Act.put, List.setIfInBounds_toArray, List.set_cons_zero, List.set_cons_succ]
              -- 8: Op.extract (Operand.tmp 106) 0
              refine' anyZ_pure (i := 8) (v := _) rfl (by rfl) (by kernel_rfl) (by kernel_rfl) (by kernel_rfl) hcl8 (fun _ _ _ h => h) (Or.inl ⟨by rfl, fun w _ => ?hx9⟩) (fun _ => hHeld) (fun hcl9 => ?rx9)
              case hx9 => (simp only [List.getElem_toArray, List.getElem_cons_succ, List.getElem_cons_zero]; first | (go_simp; with_reducible rfl) | (go_simp; done) | rfl)
              simp only [List.getElem_toArray, List.getElem_cons_succ, List.getElem_cons_zero, Act.put, List.setIfInBounds_toArray, List.set_cons_zero, List.set_cons_succ]
              -- 9: Op.extract (Operand.tmp 106) 1
              refine' anyZ_pure (i := 9) (v := _) rfl (by rfl) (by kernel_rfl) (by kernel_rfl) (by kernel_rfl) hcl9 (fun _ _ _ h => h) (Or.inl ⟨by rfl, fun w _ => ?hx10⟩) (fun _ => hHeld) (fun hcl10 => ?rx10)
              case hx10 => (simp only [List.getElem_toArray, List.getElem_cons_succ, List.getElem_cons_zero]; first | (go_simp; with_reducible rfl) | (go_simp; done) | rfl)
              simp only [List.getElem_toArray, List.getElem_cons_succ, List.getElem_cons_zero, Act.put, List.setIfInBounds_toArray, List.set_cons_zero, List.set_cons_succ]
              -- 10: Op.alloc 29
              refine anyZ_one (i := 10) hcl10 (by kernel_rfl) (by simp only [List.getElem?_toArray, List.getElem?_cons_succ, List.getElem?_cons_zero]; rfl) (by rfl) (fun hcl11 K hK => ?_)
              go_simp
              have hbz := bdr (bal (bre wq) (.cells #[.int .u8 0, .string ⟨#[]⟩, .int .i64 0, .int .u8 0, .int .u64 0, .slice none 0 0] 29))
              have hrz : (wq.alloc (.cells #[.int .u8 0, .string ⟨#[]⟩, .int .i64 0, .int .u8 0, .int .u64 0, .slice none 0 0] 29)).drew.heap[wq.heap.size]? = _ := heap_alloc_new wq (.cells #[.int .u8 0, .string ⟨#[]⟩, .int .i64 0, .int .u8 0, .int .u64 0, .slice none 0 0] 29)
              generalize (wq.alloc (.cells #[.int .u8 0, .string ⟨#[]⟩, .int .i64 0, .int .u8 0, .int .u64 0, .slice none 0 0] 29)).drew = wz at *
              obtain ⟨n18, hn18⟩ : ∃ q, q = wq.heap.size := ⟨_, rfl⟩
              rw [← hn18] at hrz ⊢
              have hRz : Row6 wz n18 .zero (.slice none 0 0) := hrz
              have p0 := hRz.c0
              have p1 := hRz.c1
              have p2 := hRz.c2
              have p3 := hRz.c3
              have p4 := hRz.c4
              have p5 := hRz.c5
              have pf := hRz.fz
              have HBZ := Lib.hid hbz
              have HN18 : Hid (wq.heap.size ≤ n18) := Lib.hid (by omega)
              clear hrz hn18
              refine hK _ _ (fun _ => ?_) ?_
              · exact HSB.out _ HBZ.out
              clear hK K hHeld
              have hHeld := HSB.out _ HBZ.out
              try simp only [Act.put, List.setIfInBounds_toArray, List.set_cons_zero, List.set_cons_succ]
              -- 11: Op.store 29 (Operand.tmp 18) (Operand.tmp 114)
              refine anyZ_one (i := 11) hcl11 (by kernel_rfl) (by simp only [List.getElem?_toArray, List.getElem?_cons_succ, List.getElem?_cons_zero]; rfl) (by rfl) (fun hcl12 K hK => ?_)
              go_simp
              have hby := put6_below HBZ.out HN18.out n5 (.slice ka5 nn5 kc5)
              generalize (((((wz.setCell ⟨n18, 0, none⟩ (.int .u8 n5.kind)).setCell ⟨n18, 1, none⟩ (.string n5.name)).setCell ⟨n18, 2, none⟩ (.int .i64 n5.num)).setCell ⟨n18, 3, none⟩ (.int .u8 n5.typ)).setCell ⟨n18, 4, none⟩ (.int .u64 n5.ref)).setCell ⟨n18, 5, none⟩ (.slice ka5 nn5 kc5) = wy at *
              have HBY := Lib.hid hby
              clear hby p0 p1 p2 p3 p4 p5 pf hRz
              refine hK _ _ (fun _ => ?_) ?_
              · exact HSB.out _ HBY.out
              clear hK K hHeld
              try simp only [Act.put, List.setIfInBounds_toArray, List.set_cons_zero, List.set_cons_succ]
              refine anyZ_chain_at (by kernel_rfl) ?_
              simp only [List.drop_succ_cons, List.drop_zero]
              have harY := HARQ.out.1.below HBY.out
              have HARY := Lib.hid harY.1
              have hlY : wy.rangeLeft b r < wr.rangeLeft b r := by rw [harY.2, HARQ.out.2]; exact HLT.out
              have HLY := Lib.hid hlY
              have HMY := Lib.hid (HMQ.out.below HBY.out)
              have HBWY := Lib.hid (HBQ.out.trans (HBY.out.mono HBQ.out.size))
              have y4 := (HRQ.out.below HBY.out).c4
              have hdn := HDONE.out
              have hbd := HBAD.out
              rw [← HRO.out] at hdn hbd
              have HDN := Lib.hid hdn
              have HBD := Lib.hid hbd
              clear harY hlY hdn hbd HARQ HLT HMQ HBQ HBY HRQ HSB HDONE HBAD HBZ HN18
              by_cases hr0 : n9.ref = 0
              · have s1 : ((n9.ref : Int) == 0) = true := beq_iff_eq.2 (by omega)
                have s2 : ((n9.ref : Int) != 0) = false := by rw [bne, s1]; rfl
                have s3 : (n9.ref : Int) = 0 := by omega
                have HDN2 := Lib.hid (HDN.out (by rw [hr0]; rfl))
                clear hr0
                go_wp2_with fail
                go_roundw
                case rel => exact ⟨_, HARY, HMY, HBWY, HDN2⟩
                case measure => exact HLY.out
              · have s1 : ((n9.ref : Int) == 0) = false := beq_false_of_ne (by omega)
                have s2 : ((n9.ref : Int) != 0) = true := by rw [bne, s1]; rfl
                have s3 : ¬ (n9.ref : Int) = 0 := by omega
                have s4 : (n9.ref == 0) = false := beq_false_of_ne hr0
                cases ro with
                | true =>
                  have HDN2 := Lib.hid (HDN.out (by rw [Bool.or_true]))
                  go_wp2_with fail
                  go_roundw
                  case rel => exact ⟨_, HARY, HMY, HBWY, HDN2⟩
                  case measure => exact HLY.out
                | false =>
                  have hT := HBD.out (by rw [s4]; rfl)
                  subst hT
                  go_wp2_with fail
                  go_ret
                  exact ⟨rfl, HBWY.out⟩
    · have q1 : ((n.kind : Int) == 1) = false := beq_false_of_ne (by omega)
      have q2 : decide ((n.kind : Int) = 1) = false := decide_eq_false (by omega)
      have q3 : ((n.kind : Int) != 1) = true := by rw [bne, q1]; rfl
      have q4 : ¬ (n.kind : Int) = 1 := by omega
      have hf : T = false := by
        rw [HT.out]
        unfold treeOf
        rw [HG.out]
        show (if n.kind ≠ 1 then false else _) = false
        rw [if_pos hk1]
      subst hf
      go_wp2_with fail
      go_ret
      exact ⟨rfl, HB2.out⟩
end Go.Proofs.Ytnbncjebmlicgaa
