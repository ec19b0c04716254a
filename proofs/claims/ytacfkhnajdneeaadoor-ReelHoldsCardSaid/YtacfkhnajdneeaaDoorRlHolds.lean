/- Walk of the law: ReelHolds. -/
import Derived.Test.YtacfkhnajdneeaaDoorRlActs
import Derived.Test.YtacfkhnajdneeaaDoorRlRefC
namespace Go.Proofs.YtacfkhnajdneeaaDoor
open Go.RowKit

set_option maxRecDepth 20000 in
set_option maxHeartbeats 3200000 in
theorem holds_calls (s : Nat) (c0 : Cr) (ok0 : c0.Ok) (v : Value) (l : List RAct) (w : World) (hv : RActs w v l) :
    Calls Tryd.prog 6 #[.int .u8 s, CrVal c0, v] w fun e w' => e = .returned (.bool true) ∧ Below w.heap.size w w' := by
  obtain ⟨a, cp, rfl, hm, hc, -, hrow⟩ := id hv
  have HR := Lib.hid hrow
  obtain ⟨L, hL⟩ : ∃ L, L = l.length := ⟨_, rfl⟩
  rw [← hL] at hm hc ⊢
  have HL := Lib.hid hL
  obtain ⟨h2, hh2⟩ : ∃ x, x = c0.half % 2 := ⟨_, rfl⟩
  obtain ⟨s2, hs2⟩ : ∃ x, x = c0.serial / 2 := ⟨_, rfl⟩
  obtain ⟨M, hM⟩ : ∃ x, x = s % 20 := ⟨_, rfl⟩
  obtain ⟨N, hN⟩ : ∃ x, x = 4 + M := ⟨_, rfl⟩
  have e1 : (c0.half : Int) % 2 = (h2 : Int) := by omega
  have e2 : (c0.serial : Int) / 2 = (s2 : Int) := by omega
  have e3 : (s : Int) % 20 = (M : Int) := by omega
  have e5 : (4 : Int) + (M : Int) = (N : Int) := by omega
  have hM19 : M ≤ 19 := by omega
  have hNN : 4 ≤ N ∧ N ≤ 23 := by omega
  have HNN := Lib.hid hNN
  have e4 : (s2 : Int) % 4294967296 = (s2 : Int) := by have := ok0.serial; omega
  obtain ⟨c, hcd⟩ : ∃ c : Cr, c = ⟨c0.gen, h2, s2⟩ := ⟨_, rfl⟩
  have ok : c.Ok := by
    rw [hcd]
    exact ⟨ok0.gen, by show h2 < 256; omega, by have := ok0.serial; show s2 < 4294967296; omega⟩
  have hc31 : c.serial < 2147483648 := by rw [hcd]; have := ok0.serial; show s2 < _; omega
  have hch : c.half ≤ 1 := by rw [hcd]; show h2 ≤ 1; omega
  have HC := Lib.hid (And.intro ok (And.intro hc31 hch))
  have HCD := Lib.hid hcd
  unfold maxLen at hm
  unfold CrVal
  obtain ⟨n3, hn3⟩ : ∃ n, n = w.heap.size := ⟨_, rfl⟩
  clear hv hrow hL hh2 hs2 hcd ok hc31 hch hM hN hNN
  go_enter Tryd.func6, Tryd.ntmps6
  go_upto_region 1 with fail
  have hb0 := bal (bre w) (.cells #[.int .u32 c0.gen, .int .u8 c0.half, .int .u32 c0.serial] 36)
  have hr0 := heap_alloc_new w (.cells #[.int .u32 c0.gen, .int .u8 c0.half, .int .u32 c0.serial] 36)
  generalize w.alloc (.cells #[.int .u32 c0.gen, .int .u8 c0.half, .int .u32 c0.serial] 36) = W at *
  rw [← hn3] at hr0 ⊢
  have hrow0 : Row3 W n3 c0 := hr0
  have HROW := Lib.hid hrow0
  have HB0 := Lib.hid hb0
  have HN3 : Hid (w.heap.size ≤ n3) := Lib.hid (by omega)
  clear hb0 hr0 hrow0 hn3
  go_wp2_with fail
  refine (awake_any W).mono ?_
  rintro e w1 ⟨rfl, hb1⟩
  have HROW1 := Lib.hid (HROW.out.below hb1)
  have HB1 := Lib.hid (btr HB0.out hb1)
  have x0 := HROW1.out.c0
  have x1 := HROW1.out.c1
  have x2 := HROW1.out.c2
  have fz := HROW1.out.fz
  clear hb1 HROW HB0
  go_upto_region 5 with fail
  have hrow2 : Row3 ((w1.setCell ⟨n3, 1, none⟩ (.int .u8 h2)).setCell ⟨n3, 2, none⟩ (.int .u32 s2)) n3 c := by
    rw [HCD.out]
    exact heap_setCell_same _ n3 2 _ _ (.int .u32 s2) (heap_setCell_same w1 n3 1 _ _ (.int .u8 h2) HROW1.out)
  have hb2 : Below w.heap.size w ((w1.setCell ⟨n3, 1, none⟩ (.int .u8 h2)).setCell ⟨n3, 2, none⟩ (.int .u32 s2)) := (HB1.out.setCell HN3.out _).setCell HN3.out _
  generalize (w1.setCell ⟨n3, 1, none⟩ (.int .u8 h2)).setCell ⟨n3, 2, none⟩ (.int .u32 s2) = w2 at *
  have HROW2 := Lib.hid hrow2
  have HB2 := Lib.hid hb2
  clear hrow2 hb2 x0 x1 x2 fz e1 e2 e4 HROW1 HB1 HCD
  go_wp2_with fail
  refine (new_any N w2 (by have := HNN.out; omega) (by have := HNN.out; omega)).mono ?_
  rintro e w3 ⟨gd, F, rfl, hd3, hf3, hb3⟩
  have HROW3 := Lib.hid (HROW2.out.below hb3)
  have HB3 := Lib.hid (btr HB2.out hb3)
  have HD3 := Lib.hid hd3
  have HF3 := Lib.hid hf3
  have HBS2 := Lib.hid HB2.out.size
  have y0 := HROW3.out.c0
  have y1 := HROW3.out.c1
  have y2 := HROW3.out.c2
  clear hd3 hf3 hb3 HROW2 HB2 e3 e5
  go_wp2_with fail
  refine (open_new2_any gd N F c HC.out.1 w3 HD3.out HNN.out.1 (by have := HNN.out; omega) HC.out.2.2 (by have := HC.out.2.1; omega)).mono ?_
  rintro e w4 ⟨hb4, g, G, r, z, rfl, hr4, hg4, hl4, hzn, hzg, hzs, hrf, -⟩
  have hho : Hol w w4 gd n3 g N 0 c (.slice none 0 0) [] z r (Dk.new N) F G 0 := ⟨⟨HD3.out.below hb4, hr4, hl4, fun k hk => by
    rcases hk with hk | hk
    · exact Nat.le_trans HBS2.out (HF3.out k hk)
    · exact Nat.le_trans HB3.out.size (hg4 k hk), btr HB3.out hb4⟩, HROW3.out.below hb4, RecsAt.nil _ _, fun q hq => (by cases hq), hzg, by omega, by rw [hl4.n, hzn, hrf], List.length_replicate, ⟨Nat.zero_le _, Nat.zero_le _⟩⟩
  have HHO := Lib.hid hho
  clear hho hr4 hg4 hl4 hzn hzg hzs hrf hb4 HD3 HF3 HB3 HROW3 HBS2 y0 y1 y2
  go_upto_block 0 with fail
  go_cut [7, 9, 11, 12, 13] from 14 to 176 (fun pd p1 _ va _ wx => ∃ (gd g k synced : Nat) (all : List (List UInt8)) (z : Sess) (r : Rl) (d : Dk) (F G : Nat → Prop), pd = .pointer (some ⟨gd, 0, none⟩) ∧ p1 = .pointer (some ⟨g, 0, none⟩) ∧ k ≤ 40 ∧ Hid (Hol w wx gd n3 g N k c va all z r d F G synced))
  case first =>
    go_wp2_with fail
    go_loopw [7, 9, 12, 13, 53] (fun pd p1 va vs i wr => ∃ (gd g k synced : Nat) (all : List (List UInt8)) (z : Sess) (r : Rl) (d : Dk) (F G : Nat → Prop), pd = .pointer (some ⟨gd, 0, none⟩) ∧ p1 = .pointer (some ⟨g, 0, none⟩) ∧ vs = .int .i64 synced ∧ i = .int .i64 k ∧ k ≤ 40 ∧ k ≤ L ∧ Hid (Hol w wr gd n3 g N k c va all z r d F G synced)) (fun _ _ _ _ i _ => L - (intOf i).toNat)
    case atStart => exact ⟨gd, g, 0, 0, [], z, r, Dk.new N, F, G, rfl, rfl, rfl, rfl, by omega, by omega, HHO⟩
    case round =>
      clear HHO
      obtain ⟨gd, g, k, synced, all, z, r, d, F, G, rfl, rfl, rfl, rfl, hk40, hkL, hho⟩ := hrel
      by_cases hlt : k < L
      · have hkl : k < l.length := by rw [← HL.out]; exact hlt
        rcases HR.out with h0 | ⟨gb, ob, rfl, hcell⟩
        · rw [h0] at hkl; simp at hkl
        obtain ⟨us, hul, hur, kv, hus, hkv, hd6, hn6, hb6⟩ := hcell k _ (List.getElem?_eq_getElem hkl)
        generalize l[k] = ac at *
        subst hus
        obtain ⟨ka, kc, rfl2⟩ : ∃ a c, kv = .slice a ac.keep.length c := by obtain ⟨a, c, e, -⟩ := hkv; exact ⟨a, c, e⟩
        subst rfl2
        have hbl := hho.out.st.bel
        have u0 := hur 0 _ rfl
        have u1 := hur 1 _ rfl
        have u2 := hur 2 _ rfl
        have u3 := hur 3 _ rfl
        have hgb : gb < w.heap.size := block_lt_of_cell u0
        have v0 := (hbl.cell (p := ⟨gb, ob + k * 4 + 0, none⟩) hgb).trans u0
        have v1 := (hbl.cell (p := ⟨gb, ob + k * 4 + 1, none⟩) hgb).trans u1
        have v2 := (hbl.cell (p := ⟨gb, ob + k * 4 + 2, none⟩) hgb).trans u2
        have v3 := (hbl.cell (p := ⟨gb, ob + k * 4 + 3, none⟩) hgb).trans u3
        have HKV := Lib.hid hkv
        have d1 : decide ((k : Int) < (L : Int)) = true := decide_eq_true (by omega)
        have d1n : decide (k < L) = true := decide_eq_true hlt
        clear hcell hul hur u0 u1 u2 u3 hkv hbl hgb hkl
        rw [Nat.add_zero] at v0
        go_upto_region 14 with fail
        have hba := bal (bre wr) (.cells #[.int .u8 ac.dd, .int .u16 ac.nn, .int .u8 ac.bb, .slice ka ac.keep.length kc] 56)
        have hra := heap_alloc_new wr (.cells #[.int .u8 ac.dd, .int .u16 ac.nn, .int .u8 ac.bb, .slice ka ac.keep.length kc] 56)
        generalize wr.alloc (.cells #[.int .u8 ac.dd, .int .u16 ac.nn, .int .u8 ac.bb, .slice ka ac.keep.length kc] 56) = wa at *
        obtain ⟨n15, hn15⟩ : ∃ n, n = wr.heap.size := ⟨_, rfl⟩
        rw [← hn15] at hra ⊢
        have HRA := Lib.hid hra
        have HHA := Lib.hid (hho.out.below hba)
        have HKA := Lib.hid ((HKV.out.below hho.out.st.bel).below hba)
        have HAC := Lib.hid (And.intro hd6 (And.intro hn6 hb6))
        have z0 := cell_of_row wa n15 0 _ _ _ hra
        clear hba hra hn15 hho HKV v0 v1 v2 v3 hd6 hn6 hb6
        by_cases h40 : k < 40
        · have d2 : decide ((40 : Int) ≤ (k : Int)) = false := decide_eq_false (by omega)
          have d2n : decide (40 ≤ k) = false := decide_eq_false (by omega)
          go_upto_block 2 with fail
          clear d2 d2n
          go_cut [7, 9, 11, 12, 13, 16, 17, 18, 19, 20, 21] from 63 to 139 (fun pd p1 _ va vs _ _ _ _ _ _ wx => ∃ (gd g synced : Nat) (all : List (List UInt8)) (z : Sess) (r : Rl) (d : Dk) (F G : Nat → Prop), pd = .pointer (some ⟨gd, 0, none⟩) ∧ p1 = .pointer (some ⟨g, 0, none⟩) ∧ vs = .int .i64 synced ∧ Hid (Hol w wx gd n3 g N (k + 1) c va all z r d F G synced))
          case first =>
            by_cases h4 : ac.dd % 6 = 4
            · have q1 : ((ac.dd : Int) % 6 == 4) = true := beq_iff_eq.2 (by omega)
              have q2 : decide ((ac.dd : Int) % 6 = 4) = true := decide_eq_true (by omega)
              clear h4
              obtain ⟨av, cv, hva, -, -, -, -⟩ := id HHA.out.recs.rows
              subst hva
              go_wp2_with fail
              refine (st_sync_any HHA.out.st (by have := HHA.out.few.2; omega)).mono ?_
              rintro e w6 ⟨rfl, F6, hst6, hm6⟩
              have HG6 := Lib.hid ((HHA.out.sync hst6 hm6).later (Nat.le_succ k))
              clear hst6 hm6 HHA HKA HRA z0
              go_wp2_with fail
              go_meet
              case rel => exact ⟨gd, g, _, all, z, r, d.synced, F6, G, rfl, rfl, rfl, HG6⟩
            · by_cases h5 : ac.dd % 6 = 5
              · have q1 : ((ac.dd : Int) % 6 == 4) = false := beq_false_of_ne (by omega)
                have q2 : decide ((ac.dd : Int) % 6 = 4) = false := decide_eq_false (by omega)
                have q3 : ((ac.dd : Int) % 6 == 5) = true := beq_iff_eq.2 (by omega)
                have q4 : decide ((ac.dd : Int) % 6 = 5) = true := decide_eq_true (by omega)
                have z3 := cell_of_row wa n15 3 _ _ _ HRA.out
                clear h4 h5
                obtain ⟨av, cv, hva, -, -, -, -⟩ := id HHA.out.recs.rows
                subst hva
                go_wp2_with fail
                refine (crash_ok gd d F _ ac.keep wa HHA.out.st.dk HKA.out (by have := HHA.out.few.2; omega)).mono ?_
                rintro e w6 ⟨gn, F6, rfl, hd6, hf6, hb6⟩
                have HD6 := Lib.hid hd6
                have HF6 := Lib.hid (And.intro hf6 hb6)
                have hcr6 := HHA.out.cr.below hb6
                have y0 := hcr6.c0
                have y1 := hcr6.c1
                have y2 := hcr6.c2
                clear hd6 hf6 hb6 hcr6 q1 q2 q3 q4 z3 z0
                go_wp2_with fail
                have hcl : (d.crashed ac.keep).safe.length = N := (crashed_len d ac.keep).trans HHA.out.len
                refine (open_again_any gn gn F6 c HC.out.1 w6 HHA.out.st.lv HD6.out HC.out.2.2 (by rw [hcl]; exact HNN.out.1) rfl HHA.out.zg.symm (by have := HHA.out.zs.1; omega) (by have := HHA.out.zs.2; have := HC.out.2.1; omega) (by rw [hcl]; exact HHA.out.fr) (crashed_len d ac.keep) ⟨rfl, rfl⟩ rfl (fun j hj => crashed_can d ac.keep (r.fr + j) (by have h1 := HHA.out.st.lv.fits; have h2 := HHA.out.st.lv.n; omega))).mono ?_
                rintro e w7 ⟨hb7, g7, G7, r7, z7, kk, rfl, hr7, hG7, hk1, hk2, hl7, hzn7, hzg7, hzs7, hcs7, hrf7, -⟩
                have HR7 := Lib.hid hr7
                have HX7 := Lib.hid (And.intro hb7 (And.intro hG7 (And.intro hl7 (And.intro hzn7 (And.intro hzg7 (And.intro hzs7 (And.intro hcs7 hrf7)))))))
                have HK := Lib.hid (And.intro hk1 hk2)
                clear hb7 hr7 hG7 hl7 hzn7 hzg7 hzs7 hcs7 hrf7 hk1 hk2 y0 y1 y2 hcl
                go_wp2_with fail
                refine (rrecords_in HR7.out (by rw [HX7.out.2.2.1.ls, List.length_take]; have h1 := HX7.out.2.2.1.few; rw [List.length_take] at h1; have := all_len_le (all.take kk); have h3 := HX7.out.2.2.1.poss.room; have h4 := HX7.out.2.2.1.fits; have h5 := HX7.out.2.2.1.n; have h6 : (d.crashed ac.keep).safe.length = N := (crashed_len d ac.keep).trans HHA.out.len; have h7 := HNN.out; rw [List.length_take] at this; omega) (by rw [HX7.out.2.2.1.ls]; exact HX7.out.2.2.1.big)).mono ?_
                rintro e w8 ⟨v8, rfl, ho8, hb8⟩
                rw [HX7.out.2.2.1.ls] at ho8
                have hkl : (all.take kk).length = kk := by rw [List.length_take]; have := HK.out.2; omega
                have hap : ∀ q, v8.ownBlock = some q → ¬ (F6 q ∨ G7 q) := fun q hq hFG => by
                  obtain ⟨us, -, q2, -⟩ := ho8
                  have h1 := (World.ownsRow.lt q2 q hq).1
                  rcases hFG with hF | hG
                  · have := HD6.out.lt q hF; have := HX7.out.1.size; omega
                  · have := HR7.out.lt q hG; omega
                have hlow : RecsAt w.heap.size w8 v8 (all.take kk) := ho8.base (Nat.le_trans HHA.out.st.bel.size (Nat.le_trans HF6.out.2.size HX7.out.1.size))
                have HG8 := Lib.hid (HHA.out.crash HD6.out HF6.out.1 HF6.out.2 (btr HX7.out.1 hb8) (HR7.out.below hb8) HX7.out.2.1 HX7.out.2.2.1 HX7.out.2.2.2.1 HX7.out.2.2.2.2.1 HX7.out.2.2.2.2.2.1 HX7.out.2.2.2.2.2.2.1 HX7.out.2.2.2.2.2.2.2 hlow hap)
                have HA8 := Lib.hid (HHA.out.recs.below (btr (btr HF6.out.2 HX7.out.1) hb8))
                have hsy := HHA.out.st.lv.few
                obtain ⟨gt, hgt⟩ : ∃ x, x = all.take kk := ⟨_, rfl⟩
                have hbeg : gt = all.take gt.length := by rw [hgt, hkl]
                rw [← hgt] at HG8 hkl
                obtain ⟨a8, c8, hv8, -, -, -, -⟩ := id HG8.out.recs.rows
                subst hv8
                have d5 : decide ((gt.length : Int) < (synced : Int)) = false := decide_eq_false (by have := HK.out.1; omega)
                have d5n : decide (gt.length < synced) = false := decide_eq_false (by have := HK.out.1; omega)
                have HBEG := Lib.hid (And.intro hbeg hsy)
                have HGL : Hid (gt.length ≤ 2000000) := Lib.hid (by have := HK.out.2; omega)
                clear ho8 hb8 hap hlow hsy hgt hbeg hkl HHA HKA HRA HD6 HF6 HR7 HX7 HK
                go_wp2_with fail
                refine (begins_any _ _ gt all w8 HG8.out.recs.rows HA8.out.rows (by have := HGL.out; omega)).mono ?_
                rintro e w9 ⟨rfl, hb9⟩
                rw [decide_eq_true HBEG.out.1]
                have HG9 := Lib.hid (HG8.out.below hb9)
                clear hb9 HG8 HA8 HBEG d5 d5n
                go_wp2_with fail
                go_meet
                case rel => exact ⟨gn, g7, gt.length, gt, z7, r7, d.crashed ac.keep, F6, G7, rfl, rfl, rfl, HG9⟩
              · have q1 : ((ac.dd : Int) % 6 == 4) = false := beq_false_of_ne (by omega)
                have q2 : decide ((ac.dd : Int) % 6 = 4) = false := decide_eq_false (by omega)
                have q3 : ((ac.dd : Int) % 6 == 5) = false := beq_false_of_ne (by omega)
                have q4 : decide ((ac.dd : Int) % 6 = 5) = false := decide_eq_false (by omega)
                have z1 := cell_of_row wa n15 1 _ _ _ HRA.out
                have z2 := cell_of_row wa n15 2 _ _ _ HRA.out
                have z3 := cell_of_row wa n15 3 _ _ _ HRA.out
                clear h4 h5
                go_wp2_with fail
                refine (record_any ac.dd ac.nn ac.bb ka ac.keep.length kc wa).mono ?_
                rintro e w6 ⟨v6, rfl, ho6, hb6⟩
                obtain ⟨x, hx⟩ : ∃ x, x = recOf (ac.nn % 1200) ac.bb := ⟨_, rfl⟩
                rw [← hx] at ho6
                have hxl : x.length ≤ 1199 := by rw [hx, recOf_len]; omega
                have HXL := Lib.hid hxl
                have HH6 := Lib.hid (HHA.out.below hb6)
                have HV6 := Lib.hid ((Rec8.of_own ho6).low (base' := w.heap.size) HHA.out.st.bel.size)
                obtain ⟨a6, m6, c6, rfl⟩ := Own8.isSlice ho6
                clear ho6 hb6 hx hxl HHA HKA HRA HAC q1 q2 q3 q4 z0 z1 z2 z3
                go_wp2_with fail
                refine (rroom_in HH6.out.st.rl (by have h1 := HH6.out.st.lv.fits; have h2 := HH6.out.len; have := HNN.out; omega) (by rw [HH6.out.st.lv.ls, HH6.out.st.lv.n]; exact HH6.out.st.lv.poss.room)).mono ?_
                rintro e w7 ⟨rfl, hb7⟩
                obtain ⟨RM, hRM⟩ : ∃ q, q = 487 * r.n - (layAll r.ls).length := ⟨_, rfl⟩
                have hRM2 : RM = 487 * z.n - (layAll all).length := by rw [hRM, HH6.out.st.lv.ls, HH6.out.st.lv.n]
                have hrb := HH6.out.st.lv.poss.room
                rw [← hRM]
                have HH7 := Lib.hid (HH6.out.below hb7)
                have HV7 := Lib.hid (HV6.out.below hb7)
                have HRM := Lib.hid (And.intro hRM2 hrb)
                clear hb7 hRM hRM2 hrb HH6 HV6
                go_wp2_with fail
                refine (writes_any gd d F w7 HH7.out.st.dk).mono ?_
                rintro e w8 ⟨rfl, hw⟩
                have hw' := hw.symm
                subst hw'
                clear hw
                obtain ⟨CT, hCT⟩ : ∃ q, q = d.count := ⟨_, rfl⟩
                have HCT := Lib.hid hCT
                rw [← hCT]
                clear hCT
                go_wp2_with fail
                refine (st_append_any HH7.out.st _ x (HV7.out.low (Nat.zero_le _)) (by have := HXL.out; omega) (by have := HH7.out.few.1; omega) (by have := HH7.out.few.2; omega) (by have h1 := all_len_le all; have h2 := HH7.out.st.lv.poss.room; have h3 := HH7.out.st.lv.fits; have h4 := HH7.out.st.lv.n; have h5 := HH7.out.len; have := HNN.out; omega)).mono ?_
                rintro e w9 ⟨hno, hyes⟩
                have hla : (layAll (all ++ [x])).length = (layAll all).length + (layOne x).length := by rw [layAll_app, layAll_one, List.length_append]
                have hlo : (layOne x).length ≤ 2000 := by
                  have := (Vi.varint_length x.length)
                  have := HXL.out
                  unfold layOne
                  rw [List.length_append]
                  omega
                by_cases hfit : (layAll (all ++ [x])).length ≤ 487 * z.n
                · obtain ⟨he, r3, d3, F3, G3, k1, k2, k3, k4, k5, k6⟩ := hyes hfit
                  subst he
                  obtain ⟨j1, j2⟩ := HH7.out.recs.moved HH7.out.st k2 HH7.out.ap
                  have HV9 := Lib.hid (HV7.out.moved HH7.out.st k2)
                  have HJ9 := Lib.hid j1
                  have HK9 := Lib.hid (And.intro k1 (And.intro k2 (And.intro k3 (And.intro k4 (And.intro k5 k6)))))
                  obtain ⟨LO, hLO⟩ : ∃ q, q = (layOne x).length := ⟨_, rfl⟩
                  rw [← hLO] at hla hlo
                  have HLO := Lib.hid hLO
                  have d5 : decide ((LO : Int) ≤ (RM : Int)) = true := decide_eq_true (by have h1 := HRM.out.1; have h2 := HRM.out.2; omega)
                  have d5n : decide (LO ≤ RM) = true := decide_eq_true (by have h1 := HRM.out.1; have h2 := HRM.out.2; omega)
                  clear hno hyes hfit hla hLO k1 k2 k3 k4 k5 k6 j1 j2 HV7
                  go_wp2_with fail
                  refine (rflay_any _ [x] _ (rows_lit1 _ _ x _ _ rfl HV9.out.1) (fun y hy => by simp at hy; rw [hy]; have := HXL.out; omega) (by rw [layAll_one, ← HLO.out]; omega)).mono ?_
                  rintro e w10 ⟨v10, rfl, ho10, hb10⟩
                  have HB10 := Lib.hid (btr (bal (bre w9) (.cells #[.slice a6 m6 c6] 23)) hb10)
                  have HV10 := Lib.hid (HV9.out.below HB10.out)
                  have HJ10 := Lib.hid (HJ9.out.below HB10.out)
                  obtain ⟨a10, c10, rfl, -, -, -, -⟩ := id ho10.bytes
                  rw [layAll_one, ← HLO.out]
                  clear ho10 hb10 HV9 HJ9
                  obtain ⟨us, hul, hus, huel⟩ := id HJ10.out
                  have hb11 := bal (bre w10) (.cells #[] 23)
                  obtain ⟨av, cv, hva, hvc, hvm, hvn, hvl, -⟩ := ownsRow_lies (own_only hus (Only.of_below hb11 fun _ => False) fun _ _ h => h)
                  subst hva
                  have hone : ∀ y ∈ us, y.oneCell' = true := fun y hy => by
                    obtain ⟨jj, hj, hjy⟩ := List.mem_iff_getElem.1 hy
                    have h1 : us[jj]? = some y := by rw [List.getElem?_eq_getElem hj, hjy]
                    exact (huel jj y (all[jj]'(by omega)) h1 (List.getElem?_eq_getElem (by omega))).oneCell
                  have hfew := HH7.out.st.lv.few
                  obtain ⟨AL, hAL⟩ : ∃ q, q = us.length := ⟨_, rfl⟩
                  have hln : us.length = AL * 1 := by omega
                  rw [← hAL] at hvc ⊢
                  have hal6 : AL ≤ 2000000 := by omega
                  have HE0 := Lib.hid (own_empty w10 23)
                  have HL11 := Lib.hid hvl
                  have HONE := Lib.hid hone
                  have HLN := Lib.hid hln
                  have HEL := Lib.hid (And.intro hul huel)
                  have HALL := Lib.hid hAL
                  have hszE := hb11.size
                  have HVN := Lib.hid hvn
                  have HSZ := Lib.hid HB10.out.size
                  have HBW := Lib.hid (btr HH7.out.st.bel (bre w7))
                  clear hul hus huel hb11 hvm hvn hvl hone hfew hln hAL HLO
                  go_wp2_with first
                    | (at_builtin; refine wpList_app rfl _ _ 22 23 1 24 rowR rfl w10.heap.size _ AL us rfl (World.ownsRow.alloc HO11.out _) _ 1 1 [.slice a6 m6 c6] rfl rfl (lies_one _ _ _) (Nat.le_refl _) (fun h => by cases h) (by simp [Value.oneCell']) (by unfold maxLen; omega) (by omega) (Nat.le_trans HS11.out (bal (bre _) _).size) ?_; intro v12 w12 ho12 _ hb12)
                    | (at_builtin; refine wpList_app rfl _ _ 22 23 1 24 rowR rfl w10.heap.size _ 0 [] rfl HE0.out av AL cv us rfl HLN.out HL11.out hvc HVN.out HONE.out (by unfold maxLen; omega) (by omega) hszE ?_; intro v11 w11 ho11 _ hb11; rw [Nat.zero_add, List.nil_append] at ho11; have HO11 := Lib.hid ho11; have HB11 := Lib.hid hb11; have HS11 := Lib.hid (Nat.le_trans hszE hb11.size); obtain ⟨a11, c11, rfl, -, -, -, -, -⟩ := ownsRow_lies ho11; clear ho11 hb11)
                  have hbx : Below w10.heap.size w10 w12 := (((bal (bre w10) (.cells #[] 23)).trans HB11.out).alloc HS11.out (.cells #[.slice a6 m6 c6] 23)).trans hb12
                  have hrec : RecsAt w.heap.size w12 v12 (all ++ [x]) := recs_of_row (by rw [← HALL.out]; exact ho12) HEL.out.1 (fun jj y q h1 h2 => (HEL.out.2 jj y q h1 h2).below hbx) (HV10.out.below hbx) (Nat.le_trans HK9.out.1.bel.size HSZ.out)
                  have hho := HH7.out.more HK9.out.1 HK9.out.2.1 HK9.out.2.2.1 HK9.out.2.2.2.1 HK9.out.2.2.2.2.1 HK9.out.2.2.2.2.2 (btr HB10.out hbx) hrec (fun q hq => Nat.le_trans HB10.out.size (World.ownsRow.lt ho12 q hq).1)
                  go_meet
                  case rel => exact ⟨gd, g, synced, all ++ [x], z, r3, d3, F3, G3, rfl, rfl, rfl, Lib.hid hho⟩
                · obtain ⟨he, hb9⟩ := hno (by omega)
                  subst he
                  have HH9 := Lib.hid (HH7.out.below hb9)
                  have HV9 := Lib.hid (HV7.out.below hb9)
                  obtain ⟨LO, hLO⟩ : ∃ q, q = (layOne x).length := ⟨_, rfl⟩
                  rw [← hLO] at hla hlo
                  have HLO := Lib.hid hLO
                  have d5 : decide ((LO : Int) ≤ (RM : Int)) = false := decide_eq_false (by have h1 := HRM.out.1; have h2 := HRM.out.2; omega)
                  have d5n : decide (LO ≤ RM) = false := decide_eq_false (by have h1 := HRM.out.1; have h2 := HRM.out.2; omega)
                  clear hno hyes hb9 hfit hla hLO HH7 HV7
                  go_wp2_with fail
                  refine (rflay_any _ [x] _ (rows_lit1 _ _ x _ _ rfl HV9.out.1) (fun y hy => by simp at hy; rw [hy]; have := HXL.out; omega) (by rw [layAll_one, ← HLO.out]; omega)).mono ?_
                  rintro e w10 ⟨v10, rfl, ho10, hb10⟩
                  have HH10 := Lib.hid (HH9.out.below (btr (bal (bre _) _) hb10))
                  obtain ⟨a10, c10, rfl, -, -, -, -⟩ := id ho10.bytes
                  rw [layAll_one, ← HLO.out]
                  clear ho10 hb10 HH9 HV9
                  go_wp2_with fail
                  refine (writes_any gd d F w10 HH10.out.st.dk).mono ?_
                  rintro e w11 ⟨rfl, hw⟩
                  have hw' := hw.symm
                  subst hw'
                  clear hw
                  rw [← HCT.out]
                  have HG10 := Lib.hid (HH10.out.later (Nat.le_succ k))
                  clear HH10
                  go_wp2_with fail
                  go_meet
                  case rel => exact ⟨gd, g, synced, all, z, r, d, F, G, rfl, rfl, rfl, HG10⟩
          case rest =>
            obtain ⟨gd, g, synced, all, z, r, d, F, G, rfl, rfl, rfl, hho⟩ := hcut
            have hfew := hho.out.st.lv.few
            have hroom := hho.out.st.lv.poss.room
            have hzn : r.n = z.n := hho.out.st.lv.n
            have hrls : r.ls = all := hho.out.st.lv.ls
            have hn12 : z.n ≤ 23 := by have h1 := hho.out.st.lv.fits; have h2 := hho.out.len; have := HNN.out; omega
            obtain ⟨av, cv, hva, -, -, -, -⟩ := id hho.out.recs.rows
            subst hva
            obtain ⟨AL, hAL⟩ : ∃ q, q = all.length := ⟨_, rfl⟩
            obtain ⟨SZ, hSZ⟩ : ∃ q, q = (layAll all).length := ⟨_, rfl⟩
            have HAL := Lib.hid hAL
            have HSZ := Lib.hid hSZ
            have HLS := Lib.hid (And.intro hrls hzn)
            rw [← hSZ] at hroom
            have HRO := Lib.hid (And.intro hroom (And.intro hn12 hfew))
            rw [← hAL]
            clear hfew hzn hrls hAL hSZ HRA HKA HHA HAC z0
            go_upto_region 38 with fail
            have HHB := Lib.hid (hho.out.below (bdr (bre wc)))
            clear hho
            refine region_anyZ (z := 28) (S := fun w' => (w'.cell? ⟨n3, 0, none⟩ = some (.int .u32 c.gen) ∧ w'.cell? ⟨n3, 1, none⟩ = some (.int .u8 c.half) ∧ w'.cell? ⟨n3, 2, none⟩ = some (.int .u32 c.serial))) (by kernel_rfl) ?_
            refine anyZ_begin (fun hcl0 => ?_)
            refine anyZ_held (by exact ⟨HHB.out.cr.c0, HHB.out.cr.c1, HHB.out.cr.c2⟩) (fun hHeld => ?_)
            -- 0: Op.move (Operand.tmp 9)
            refine' anyZ_pure (i := 0) (v := _) rfl (by rfl) (by kernel_rfl) (by kernel_rfl) (by kernel_rfl) hcl0 (fun _ _ _ h => h) (Or.inl ⟨by rfl, fun w _ => ?ht1⟩) (fun _ => hHeld) (fun hcl1 => ?rt1)
            case ht1 => (simp only [List.getElem_toArray, List.getElem_cons_zero]; first | (go_simp; with_reducible rfl) | (go_simp; done) | rfl)
            simp only [List.getElem_toArray, List.getElem_cons_zero, Act.put, List.setIfInBounds_toArray, List.set_cons_zero, List.set_cons_succ]
            -- 2: Op.move (Operand.tmp 12)
            refine' anyZ_pure (i := 2) (v := _) rfl (by rfl) (by kernel_rfl) (by kernel_rfl) (by kernel_rfl) hcl1 (fun _ _ _ h => h) (Or.inl ⟨by rfl, fun w _ => ?ht2⟩) (fun _ => hHeld) (fun hcl2 => ?rt2)
            case ht2 => (simp only [List.getElem_toArray, List.getElem_cons_succ, List.getElem_cons_zero]; first | (go_simp; with_reducible rfl) | (go_simp; done) | rfl)
            simp only [List.getElem_toArray, List.getElem_cons_succ, List.getElem_cons_zero, Act.put, List.setIfInBounds_toArray, List.set_cons_zero, List.set_cons_succ]
            -- 1: Op.call { callee := Callee.value (Operand.func 25), args := 
            refine anyZ_oneG (i := 1) hcl2 (by kernel_rfl) (by simp only [List.getElem?_toArray, List.getElem?_cons_succ, List.getElem?_cons_zero]; rfl) (by rfl) (fun hcl3 K hK => ?_)
            go_simp
            refine (rrecords_in HHB.out.st.rl (by rw [HLS.out.1]; have := HRO.out.2.2; have h1 := all_len_le all; rw [← HSZ.out] at h1; have := HRO.out.1; have := HRO.out.2.1; omega) (by rw [HLS.out.1]; exact HHB.out.st.lv.big)).mono ?_
            rintro e w5 ⟨v5, rfl, ho5, hb5⟩
            rw [HLS.out.1] at ho5
            have HH5 := Lib.hid (HHB.out.below hb5)
            have HV5 := Lib.hid ho5
            clear ho5 hb5
            refine hK _ _ (fun _ => ?_) ?_
            · exact ⟨HH5.out.cr.c0, HH5.out.cr.c1, HH5.out.cr.c2⟩
            clear hK K hHeld
            have hHeld := (⟨HH5.out.cr.c0, HH5.out.cr.c1, HH5.out.cr.c2⟩ : _ ∧ _ ∧ _)
            try simp only [Act.put, List.setIfInBounds_toArray, List.set_cons_zero, List.set_cons_succ]
            -- 3: Op.call { callee := Callee.value (Operand.func 17), args := 
            refine anyZ_oneG (i := 3) hcl3 (by kernel_rfl) (by simp only [List.getElem?_toArray, List.getElem?_cons_succ, List.getElem?_cons_zero]; rfl) (by rfl) (fun hcl4 K hK => ?_)
            go_simp
            refine (lsame_any _ _ all all w5 HV5.out.rows (by rw [HAL.out]; exact HH5.out.recs.rows) (by have := HRO.out.2.2; omega) (by have := HRO.out.2.2; omega)).mono ?_
            rintro e w6 ⟨rfl, hb6⟩
            rw [decide_eq_true rfl]
            have HH6 := Lib.hid (HH5.out.below hb6)
            clear hb6 HH5 HV5
            refine hK _ _ (fun _ => ?_) ?_
            · exact ⟨HH6.out.cr.c0, HH6.out.cr.c1, HH6.out.cr.c2⟩
            clear hK K hHeld
            have hHeld := (⟨HH6.out.cr.c0, HH6.out.cr.c1, HH6.out.cr.c2⟩ : _ ∧ _ ∧ _)
            try simp only [Act.put, List.setIfInBounds_toArray, List.set_cons_zero, List.set_cons_succ]
            -- 4: Op.unOp UnOp.not 4 (Operand.tmp 146)
            refine' anyZ_pure (i := 4) (v := _) rfl (by rfl) (by kernel_rfl) (by kernel_rfl) (by kernel_rfl) hcl4 (fun _ _ _ h => h) (Or.inl ⟨by rfl, fun w _ => ?ht5⟩) (fun _ => hHeld) (fun hcl5 => ?rt5)
            case ht5 => (simp only [List.getElem_toArray, List.getElem_cons_succ, List.getElem_cons_zero]; first | (go_simp; with_reducible rfl) | (go_simp; done) | rfl)
            simp only [List.getElem_toArray, List.getElem_cons_succ, List.getElem_cons_zero, Act.put, List.setIfInBounds_toArray, List.set_cons_zero, List.set_cons_succ]
            -- 5: Op.move (Operand.tmp 147)
            refine' anyZ_pure (i := 5) (v := _) rfl (by rfl) (by kernel_rfl) (by kernel_rfl) (by kernel_rfl) hcl5 (fun _ _ _ h => h) (Or.inl ⟨by rfl, fun w _ => ?ht6⟩) (fun _ => hHeld) (fun hcl6 => ?rt6)
            case ht6 => (simp only [List.getElem_toArray, List.getElem_cons_succ, List.getElem_cons_zero]; first | (go_simp; with_reducible rfl) | (go_simp; done) | rfl)
            simp only [List.getElem_toArray, List.getElem_cons_succ, List.getElem_cons_zero, Act.put, List.setIfInBounds_toArray, List.set_cons_zero, List.set_cons_succ]
            -- 6: Op.move (Operand.tmp 9)
            refine' anyZ_pure (i := 6) (v := _) rfl (by rfl) (by kernel_rfl) (by kernel_rfl) (by kernel_rfl) hcl6 (fun _ _ _ h => h) (Or.inl ⟨by rfl, fun w _ => ?ht7⟩) (fun _ => hHeld) (fun hcl7 => ?rt7)
            case ht7 => (simp only [List.getElem_toArray, List.getElem_cons_succ, List.getElem_cons_zero]; first | (go_simp; with_reducible rfl) | (go_simp; done) | rfl)
            simp only [List.getElem_toArray, List.getElem_cons_succ, List.getElem_cons_zero, Act.put, List.setIfInBounds_toArray, List.set_cons_zero, List.set_cons_succ]
            -- 8: Op.move (Operand.tmp 12)
            refine' anyZ_pure (i := 8) (v := _) rfl (by rfl) (by kernel_rfl) (by kernel_rfl) (by kernel_rfl) hcl7 (fun _ _ _ h => h) (Or.inl ⟨by rfl, fun w _ => ?ht8⟩) (fun _ => hHeld) (fun hcl8 => ?rt8)
            case ht8 => (simp only [List.getElem_toArray, List.getElem_cons_succ, List.getElem_cons_zero]; first | (go_simp; with_reducible rfl) | (go_simp; done) | rfl)
            simp only [List.getElem_toArray, List.getElem_cons_succ, List.getElem_cons_zero, Act.put, List.setIfInBounds_toArray, List.set_cons_zero, List.set_cons_succ]
            -- 9: Op.call { callee := Callee.builtin Builtin.len, args := #[Op
            refine' anyZ_pure (i := 9) (v := _) rfl (by rfl) (by kernel_rfl) (by kernel_rfl) (by kernel_rfl) hcl8 (fun _ _ _ h => h) (Or.inl ⟨by rfl, fun w _ => ?ht9⟩) (fun _ => hHeld) (fun hcl9 => ?rt9)
            case ht9 => (simp only [List.getElem_toArray, List.getElem_cons_succ, List.getElem_cons_zero]; first | (go_simp; with_reducible rfl) | (go_simp; done) | rfl)
            simp only [List.getElem_toArray, List.getElem_cons_succ, List.getElem_cons_zero, Act.put, List.setIfInBounds_toArray, List.set_cons_zero, List.set_cons_succ]
            -- 7: Op.call { callee := Callee.value (Operand.func 29), args := 
            refine anyZ_oneG (i := 7) hcl9 (by kernel_rfl) (by simp only [List.getElem?_toArray, List.getElem?_cons_succ, List.getElem?_cons_zero]; rfl) (by rfl) (fun hcl10 K hK => ?_)
            go_simp
            refine (rcount_in HH6.out.st.rl).mono ?_
            rintro e w7 ⟨rfl, hw⟩
            have hw' := hw.symm
            subst hw'
            clear hw
            rw [HLS.out.1, ← HAL.out]
            refine hK _ _ (fun _ => ?_) ?_
            · exact ⟨HH6.out.cr.c0, HH6.out.cr.c1, HH6.out.cr.c2⟩
            clear hK K hHeld
            have hHeld := (⟨HH6.out.cr.c0, HH6.out.cr.c1, HH6.out.cr.c2⟩ : _ ∧ _ ∧ _)
            try simp only [Act.put, List.setIfInBounds_toArray, List.set_cons_zero, List.set_cons_succ]
            -- 10: Op.binOp BinOp.neq 3 (Operand.tmp 150) (Operand.tmp 152) 3
            refine' anyZ_pure (i := 10) (v := _) rfl (by rfl) (by kernel_rfl) (by kernel_rfl) (by kernel_rfl) hcl10 (fun _ _ _ h => h) (Or.inl ⟨by rfl, fun w _ => ?ht11⟩) (fun _ => hHeld) (fun hcl11 => ?rt11)
            case ht11 => (simp only [List.getElem_toArray, List.getElem_cons_succ, List.getElem_cons_zero]; first | (go_simp; with_reducible rfl) | (go_simp; done) | rfl)
            simp only [List.getElem_toArray, List.getElem_cons_succ, List.getElem_cons_zero, Act.put, List.setIfInBounds_toArray, List.set_cons_zero, List.set_cons_succ]
            -- 11: Op.pick (Operand.tmp 148) (Operand.const (Value.bool true)) 
            refine' anyZ_pure (i := 11) (v := _) rfl (by rfl) (by kernel_rfl) (by kernel_rfl) (by kernel_rfl) hcl11 (fun _ _ _ h => h) (Or.inl ⟨by rfl, fun w _ => ?ht12⟩) (fun _ => hHeld) (fun hcl12 => ?rt12)
            case ht12 => (simp only [List.getElem_toArray, List.getElem_cons_succ, List.getElem_cons_zero]; first | (go_simp; with_reducible rfl) | (go_simp; done) | rfl)
            simp only [List.getElem_toArray, List.getElem_cons_succ, List.getElem_cons_zero, Act.put, List.setIfInBounds_toArray, List.set_cons_zero, List.set_cons_succ]
            -- 12: Op.move (Operand.tmp 154)
            refine' anyZ_pure (i := 12) (v := _) rfl (by rfl) (by kernel_rfl) (by kernel_rfl) (by kernel_rfl) hcl12 (fun _ _ _ h => h) (Or.inl ⟨by rfl, fun w _ => ?ht13⟩) (fun _ => hHeld) (fun hcl13 => ?rt13)
            case ht13 => (simp only [List.getElem_toArray, List.getElem_cons_succ, List.getElem_cons_zero]; first | (go_simp; with_reducible rfl) | (go_simp; done) | rfl)
            simp only [List.getElem_toArray, List.getElem_cons_succ, List.getElem_cons_zero, Act.put, List.setIfInBounds_toArray, List.set_cons_zero, List.set_cons_succ]
            -- 13: Op.move (Operand.tmp 9)
            refine' anyZ_pure (i := 13) (v := _) rfl (by rfl) (by kernel_rfl) (by kernel_rfl) (by kernel_rfl) hcl13 (fun _ _ _ h => h) (Or.inl ⟨by rfl, fun w _ => ?ht14⟩) (fun _ => hHeld) (fun hcl14 => ?rt14)
            case ht14 => (simp only [List.getElem_toArray, List.getElem_cons_succ, List.getElem_cons_zero]; first | (go_simp; with_reducible rfl) | (go_simp; done) | rfl)
            simp only [List.getElem_toArray, List.getElem_cons_succ, List.getElem_cons_zero, Act.put, List.setIfInBounds_toArray, List.set_cons_zero, List.set_cons_succ]
            -- 15: Op.move (Operand.tmp 12)
            refine' anyZ_pure (i := 15) (v := _) rfl (by rfl) (by kernel_rfl) (by kernel_rfl) (by kernel_rfl) hcl14 (fun _ _ _ h => h) (Or.inl ⟨by rfl, fun w _ => ?ht15⟩) (fun _ => hHeld) (fun hcl15 => ?rt15)
            case ht15 => (simp only [List.getElem_toArray, List.getElem_cons_succ, List.getElem_cons_zero]; first | (go_simp; with_reducible rfl) | (go_simp; done) | rfl)
            simp only [List.getElem_toArray, List.getElem_cons_succ, List.getElem_cons_zero, Act.put, List.setIfInBounds_toArray, List.set_cons_zero, List.set_cons_succ]
            -- 14: Op.call { callee := Callee.value (Operand.func 32), args := 
            refine anyZ_oneG (i := 14) hcl15 (by kernel_rfl) (by simp only [List.getElem?_toArray, List.getElem?_cons_succ, List.getElem?_cons_zero]; rfl) (by rfl) (fun hcl16 K hK => ?_)
            go_simp
            refine (rsize_in HH6.out.st.rl).mono ?_
            rintro e w7 ⟨rfl, hw⟩
            have hw' := hw.symm
            subst hw'
            clear hw
            rw [HLS.out.1, ← HSZ.out]
            refine hK _ _ (fun _ => ?_) ?_
            · exact ⟨HH6.out.cr.c0, HH6.out.cr.c1, HH6.out.cr.c2⟩
            clear hK K hHeld
            have hHeld := (⟨HH6.out.cr.c0, HH6.out.cr.c1, HH6.out.cr.c2⟩ : _ ∧ _ ∧ _)
            try simp only [Act.put, List.setIfInBounds_toArray, List.set_cons_zero, List.set_cons_succ]
            -- 16: Op.call { callee := Callee.value (Operand.func 16), args := 
            refine anyZ_oneG (i := 16) hcl16 (by kernel_rfl) (by simp only [List.getElem?_toArray, List.getElem?_cons_succ, List.getElem?_cons_zero]; rfl) (by rfl) (fun hcl17 K hK => ?_)
            go_simp
            refine (rflay_any _ all w6 (by rw [HAL.out]; exact HH6.out.recs.rows) (fun q hq => by have := HH6.out.st.lv.big q hq; omega) (by rw [← HSZ.out]; have := HRO.out.1; have := HRO.out.2.1; omega)).mono ?_
            rintro e w8 ⟨v8, rfl, ho8, hb8⟩
            obtain ⟨a8, c8, rfl, -, -, -, -⟩ := id ho8.bytes
            rw [← HSZ.out]
            have HH8 := Lib.hid (HH6.out.below hb8)
            clear ho8 hb8 HH6
            refine hK _ _ (fun _ => ?_) ?_
            · exact ⟨HH8.out.cr.c0, HH8.out.cr.c1, HH8.out.cr.c2⟩
            clear hK K hHeld
            have hHeld := (⟨HH8.out.cr.c0, HH8.out.cr.c1, HH8.out.cr.c2⟩ : _ ∧ _ ∧ _)
            try simp only [Act.put, List.setIfInBounds_toArray, List.set_cons_zero, List.set_cons_succ]
            -- 17: Op.call { callee := Callee.builtin Builtin.len, args := #[Op
            refine' anyZ_pure (i := 17) (v := _) rfl (by rfl) (by kernel_rfl) (by kernel_rfl) (by kernel_rfl) hcl17 (fun _ _ _ h => h) (Or.inl ⟨by rfl, fun w _ => ?ht18⟩) (fun _ => hHeld) (fun hcl18 => ?rt18)
            case ht18 => (simp only [List.getElem_toArray, List.getElem_cons_succ, List.getElem_cons_zero]; first | (go_simp; with_reducible rfl) | (go_simp; done) | rfl)
            simp only [List.getElem_toArray, List.getElem_cons_succ, List.getElem_cons_zero, Act.put, List.setIfInBounds_toArray, List.set_cons_zero, List.set_cons_succ]
            -- 18: Op.binOp BinOp.neq 3 (Operand.tmp 157) (Operand.tmp 160) 3
            refine' anyZ_pure (i := 18) (v := _) rfl (by rfl) (by kernel_rfl) (by kernel_rfl) (by kernel_rfl) hcl18 (fun _ _ _ h => h) (Or.inl ⟨by rfl, fun w _ => ?ht19⟩) (fun _ => hHeld) (fun hcl19 => ?rt19)
            case ht19 => (simp only [List.getElem_toArray, List.getElem_cons_succ, List.getElem_cons_zero]; first | (go_simp; with_reducible rfl) | (go_simp; done) | rfl)
            simp only [List.getElem_toArray, List.getElem_cons_succ, List.getElem_cons_zero, Act.put, List.setIfInBounds_toArray, List.set_cons_zero, List.set_cons_succ]
            -- 19: Op.pick (Operand.tmp 155) (Operand.const (Value.bool true)) 
            refine' anyZ_pure (i := 19) (v := _) rfl (by rfl) (by kernel_rfl) (by kernel_rfl) (by kernel_rfl) hcl19 (fun _ _ _ h => h) (Or.inl ⟨by rfl, fun w _ => ?ht20⟩) (fun _ => hHeld) (fun hcl20 => ?rt20)
            case ht20 => (simp only [List.getElem_toArray, List.getElem_cons_succ, List.getElem_cons_zero]; first | (go_simp; with_reducible rfl) | (go_simp; done) | rfl)
            simp only [List.getElem_toArray, List.getElem_cons_succ, List.getElem_cons_zero, Act.put, List.setIfInBounds_toArray, List.set_cons_zero, List.set_cons_succ]
            -- 20: Op.move (Operand.tmp 162)
            refine' anyZ_pure (i := 20) (v := _) rfl (by rfl) (by kernel_rfl) (by kernel_rfl) (by kernel_rfl) hcl20 (fun _ _ _ h => h) (Or.inl ⟨by rfl, fun w _ => ?ht21⟩) (fun _ => hHeld) (fun hcl21 => ?rt21)
            case ht21 => (simp only [List.getElem_toArray, List.getElem_cons_succ, List.getElem_cons_zero]; first | (go_simp; with_reducible rfl) | (go_simp; done) | rfl)
            simp only [List.getElem_toArray, List.getElem_cons_succ, List.getElem_cons_zero, Act.put, List.setIfInBounds_toArray, List.set_cons_zero, List.set_cons_succ]
            -- 21: Op.move (Operand.tmp 9)
            refine' anyZ_pure (i := 21) (v := _) rfl (by rfl) (by kernel_rfl) (by kernel_rfl) (by kernel_rfl) hcl21 (fun _ _ _ h => h) (Or.inl ⟨by rfl, fun w _ => ?ht22⟩) (fun _ => hHeld) (fun hcl22 => ?rt22)
            case ht22 => (simp only [List.getElem_toArray, List.getElem_cons_succ, List.getElem_cons_zero]; first | (go_simp; with_reducible rfl) | (go_simp; done) | rfl)
            simp only [List.getElem_toArray, List.getElem_cons_succ, List.getElem_cons_zero, Act.put, List.setIfInBounds_toArray, List.set_cons_zero, List.set_cons_succ]
            -- 23: Op.move (Operand.tmp 9)
            refine' anyZ_pure (i := 23) (v := _) rfl (by rfl) (by kernel_rfl) (by kernel_rfl) (by kernel_rfl) hcl22 (fun _ _ _ h => h) (Or.inl ⟨by rfl, fun w _ => ?ht23⟩) (fun _ => hHeld) (fun hcl23 => ?rt23)
            case ht23 => (simp only [List.getElem_toArray, List.getElem_cons_succ, List.getElem_cons_zero]; first | (go_simp; with_reducible rfl) | (go_simp; done) | rfl)
            simp only [List.getElem_toArray, List.getElem_cons_succ, List.getElem_cons_zero, Act.put, List.setIfInBounds_toArray, List.set_cons_zero, List.set_cons_succ]
            -- 26: Op.move (Operand.tmp 7)
            refine' anyZ_pure (i := 26) (v := _) rfl (by rfl) (by kernel_rfl) (by kernel_rfl) (by kernel_rfl) hcl23 (fun _ _ _ h => h) (Or.inl ⟨by rfl, fun w _ => ?ht24⟩) (fun _ => hHeld) (fun hcl24 => ?rt24)
            case ht24 => (simp only [List.getElem_toArray, List.getElem_cons_succ, List.getElem_cons_zero]; first | (go_simp; with_reducible rfl) | (go_simp; done) | rfl)
            simp only [List.getElem_toArray, List.getElem_cons_succ, List.getElem_cons_zero, Act.put, List.setIfInBounds_toArray, List.set_cons_zero, List.set_cons_succ]
            -- 27: Op.load 36 (Operand.tmp 4)
            refine' anyZ_take (i := 27) (v := _) rfl (by rfl) (by kernel_rfl) (by kernel_rfl) (by kernel_rfl) hcl24 12 (by kernel_rfl) (by kernel_rfl) (fun _ _ _ h => h) (Or.inl ⟨by rfl, fun w hSw => ?ht25⟩) hHeld (fun hcl25 => ?rt25)
            case ht25 => (simp only [List.getElem_toArray, List.getElem_cons_succ, List.getElem_cons_zero]; obtain ⟨hS1, hS2, hS3⟩ := hSw; first | (go_simp; with_reducible rfl) | (go_simp; done) | rfl)
            simp only [List.getElem_toArray, List.getElem_cons_succ, List.getElem_cons_zero, Act.put, List.setIfInBounds_toArray, List.set_cons_zero, List.set_cons_succ]
            -- 22: Op.call { callee := Callee.value (Operand.func 23), args := 
            refine anyZ_oneG (i := 22) hcl25 (by kernel_rfl) (by simp only [List.getElem?_toArray, List.getElem?_cons_succ, List.getElem?_cons_zero]; rfl) (by rfl) (fun hcl26 K hK => ?_)
            go_simp
            refine (rroom_in HH8.out.st.rl (by rw [HLS.out.2]; have := HRO.out.2.1; omega) (by rw [HLS.out.1, HLS.out.2, ← HSZ.out]; exact HRO.out.1)).mono ?_
            rintro e w9 ⟨rfl, hb9⟩
            rw [HLS.out.1, HLS.out.2, ← HSZ.out]
            have HH9 := Lib.hid (HH8.out.below hb9)
            clear hb9 HH8
            obtain ⟨RM, hRM⟩ : ∃ q, q = 487 * z.n - SZ := ⟨_, rfl⟩
            rw [← hRM]
            obtain ⟨X, hX⟩ : ∃ q, q = 487 * z.n := ⟨_, rfl⟩
            have x1 : (RM : Int) + (SZ : Int) = (X : Int) := by have := HRO.out.1; omega
            have x2 : IntKind.i64.wrap (X : Int) = (X : Int) := by rw [IntKind.wrap_i64]; have := HRO.out.2.1; omega
            have x3 : (487 : Int) * (z.n : Int) = (X : Int) := by omega
            clear hRM hX
            refine hK _ _ (fun _ => ?_) ?_
            · exact ⟨HH9.out.cr.c0, HH9.out.cr.c1, HH9.out.cr.c2⟩
            clear hK K hHeld
            have hHeld := (⟨HH9.out.cr.c0, HH9.out.cr.c1, HH9.out.cr.c2⟩ : _ ∧ _ ∧ _)
            try simp only [Act.put, List.setIfInBounds_toArray, List.set_cons_zero, List.set_cons_succ]
            -- 24: Op.call { callee := Callee.value (Operand.func 32), args := 
            refine anyZ_oneG (i := 24) hcl26 (by kernel_rfl) (by simp only [List.getElem?_toArray, List.getElem?_cons_succ, List.getElem?_cons_zero]; rfl) (by rfl) (fun hcl27 K hK => ?_)
            go_simp
            refine (rsize_in HH9.out.st.rl).mono ?_
            rintro e w10 ⟨rfl, hw⟩
            have hw' := hw.symm
            subst hw'
            clear hw
            rw [HLS.out.1, ← HSZ.out]
            refine hK _ _ (fun _ => ?_) ?_
            · exact ⟨HH9.out.cr.c0, HH9.out.cr.c1, HH9.out.cr.c2⟩
            clear hK K hHeld
            have hHeld := (⟨HH9.out.cr.c0, HH9.out.cr.c1, HH9.out.cr.c2⟩ : _ ∧ _ ∧ _)
            try simp only [Act.put, List.setIfInBounds_toArray, List.set_cons_zero, List.set_cons_succ]
            -- 25: Op.binOp BinOp.add 3 (Operand.tmp 165) (Operand.tmp 167) 3
            refine' anyZ_pure (i := 25) (v := _) rfl (by rfl) (by kernel_rfl) (by kernel_rfl) (by kernel_rfl) hcl27 (fun _ _ _ h => h) (Or.inl ⟨by rfl, fun w _ => ?ht28⟩) (fun _ => hHeld) (fun hcl28 => ?rt28)
            case ht28 => (simp only [List.getElem_toArray, List.getElem_cons_succ, List.getElem_cons_zero]; first | (go_simp; with_reducible rfl) | (go_simp; done) | rfl)
            simp only [List.getElem_toArray, List.getElem_cons_succ, List.getElem_cons_zero, Act.put, List.setIfInBounds_toArray, List.set_cons_zero, List.set_cons_succ]
            clear hHeld
            refine anyZ_chain_at (by kernel_rfl) ?_
            simp only [List.drop_succ_cons, List.drop_zero]
            go_wp2_with fail
            refine (half_any gd d F c _ HH9.out.st.dk HC.out.1.half (by have := HH9.out.few.2; omega)).mono ?_
            rintro e w11 ⟨v11, rfl, ho11, hb11⟩
            have hl11 : (halfOf d (c.from d.safe.length).1 (c.from d.safe.length).2).length = z.n := by
              rw [half_len, HH9.out.len, HH9.out.fr]
              exact HLS.out.2
            obtain ⟨a11, c11, hv11, -, -, -, -⟩ := id ho11.rows
            rw [hl11] at hv11
            subst hv11
            have HG11 := Lib.hid (HH9.out.below hb11)
            clear ho11 hb11 HH9 hl11
            go_wp2_with fail
            go_roundw
            case rel => exact ⟨gd, g, k + 1, synced, all, z, r, d, F, G, rfl, rfl, rfl, by go_num, by omega, by omega, by rw [HAL.out]; exact HG11⟩
            case measure => simp [intOf]; omega
        · have d2 : decide ((40 : Int) ≤ (k : Int)) = true := decide_eq_true (by omega)
          have d2n : decide (40 ≤ k) = true := decide_eq_true (by omega)
          go_wp2_with fail
          go_meet
          case rel => exact ⟨gd, g, k, synced, all, z, r, d, F, G, rfl, rfl, hk40, HHA⟩
      · have d1 : decide ((k : Int) < (L : Int)) = false := decide_eq_false (by omega)
        have d1n : decide (k < L) = false := decide_eq_false hlt
        go_wp2_with fail
        go_meet
        case rel => exact ⟨gd, g, k, synced, all, z, r, d, F, G, rfl, rfl, hk40, hho⟩
  case rest =>
    obtain ⟨gd, g, k, synced, all, z, r, d, F, G, rfl, rfl, hk40, hho⟩ := hcut
    have hsc0 : ∃ Q so', scanR c.gen 0 0 (halfOf d (c.from d.safe.length).1 (c.from d.safe.length).2) = (none, Q, so') ∧ cutL Q = all := by
      obtain ⟨Q, so, k', h1, h2', h3, h4⟩ := hho.out.st.lv.now.reads (fun j => d.now (r.fr + j)) fun j _ => rfl
      refine ⟨Q, so, ?_, ?_⟩
      · have hh : halfOf d (c.from d.safe.length).1 (c.from d.safe.length).2 = (List.range z.n).map fun j => d.now (r.fr + j) := by
          rw [hho.out.len, hho.out.fr, ← hho.out.st.lv.n]
          rfl
        rw [hh, ← hho.out.zg]
        exact h1
      · rw [h2', List.take_of_length_le h3]
    have HSC := Lib.hid hsc0
    have hn5 : (halfOf d (c.from d.safe.length).1 (c.from d.safe.length).2).length ≤ 5000 := by
      rw [half_len]
      have := cr_from_le c d.safe.length
      have := hho.out.st.lv.ok.few
      omega
    have HN5 := Lib.hid hn5
    have HAL := Lib.hid hho.out.st.lv.few
    obtain ⟨av, cv, hva, -, -, -, -⟩ := id hho.out.recs.rows
    have HVA := Lib.hid hva
    clear HHO HR HL hc hm hsc0 hn5 hva
    go_upto_region 41 with fail
    refine region_anyZ (z := 9) (S := fun w' => (w'.cell? ⟨n3, 0, none⟩ = some (.int .u32 c.gen) ∧ w'.cell? ⟨n3, 1, none⟩ = some (.int .u8 c.half) ∧ w'.cell? ⟨n3, 2, none⟩ = some (.int .u32 c.serial))) (by kernel_rfl) ?_
    refine anyZ_begin (fun hcl0 => ?_)
    refine anyZ_held (by exact ⟨(hho.out.cr.below (bdr (bre wc))).c0, (hho.out.cr.below (bdr (bre wc))).c1, (hho.out.cr.below (bdr (bre wc))).c2⟩) (fun hHeld => ?_)
    -- 0: Op.move (Operand.tmp 7)
    refine' anyZ_pure (i := 0) (v := _) rfl (by rfl) (by kernel_rfl) (by kernel_rfl) (by kernel_rfl) hcl0 (fun _ _ _ h => h) (Or.inl ⟨by rfl, fun w _ => ?hy1⟩) (fun _ => hHeld) (fun hcl1 => ?ry1)
    case hy1 => (simp only [List.getElem_toArray, List.getElem_cons_zero]; first | (go_simp; with_reducible rfl) | (go_simp; done) | rfl)
    simp only [List.getElem_toArray, List.getElem_cons_zero, Act.put, List.setIfInBounds_toArray, List.set_cons_zero, List.set_cons_succ]
    -- 1: Op.load 36 (Operand.tmp 4)
    refine' anyZ_take (i := 1) (v := _) rfl (by rfl) (by kernel_rfl) (by kernel_rfl) (by kernel_rfl) hcl1 8 (by kernel_rfl) (by kernel_rfl) (fun _ _ _ h => h) (Or.inl ⟨by rfl, fun w hSw => ?hy2⟩) hHeld (fun hcl2 => ?ry2)
    case hy2 => (simp only [List.getElem_toArray, List.getElem_cons_succ, List.getElem_cons_zero]; obtain ⟨hS1, hS2, hS3⟩ := hSw; first | (go_simp; with_reducible rfl) | (go_simp; done) | rfl)
    simp only [List.getElem_toArray, List.getElem_cons_succ, List.getElem_cons_zero, Act.put, List.setIfInBounds_toArray, List.set_cons_zero, List.set_cons_succ]
    -- 3: Op.fieldAddr 36 (Operand.tmp 4) 0
    refine' anyZ_pure (i := 3) (v := _) rfl (by rfl) (by kernel_rfl) (by kernel_rfl) (by kernel_rfl) hcl2 (fun _ _ _ h => h) (Or.inl ⟨by rfl, fun w _ => ?hy3⟩) (fun _ => hHeld) (fun hcl3 => ?ry3)
    case hy3 => (simp only [List.getElem_toArray, List.getElem_cons_succ, List.getElem_cons_zero]; first | (go_simp; with_reducible rfl) | (go_simp; done) | rfl)
    simp only [List.getElem_toArray, List.getElem_cons_succ, List.getElem_cons_zero, Act.put, List.setIfInBounds_toArray, List.set_cons_zero, List.set_cons_succ]
    -- 4: Op.load 34 (Operand.tmp 181)
    refine' anyZ_take (i := 4) (v := _) rfl (by rfl) (by kernel_rfl) (by kernel_rfl) (by kernel_rfl) hcl3 8 (by kernel_rfl) (by kernel_rfl) (fun _ _ _ h => h) (Or.inl ⟨by rfl, fun w hSw => ?hy4⟩) hHeld (fun hcl4 => ?ry4)
    case hy4 => (simp only [List.getElem_toArray, List.getElem_cons_succ, List.getElem_cons_zero]; obtain ⟨hS1, hS2, hS3⟩ := hSw; first | (go_simp; with_reducible rfl) | (go_simp; done) | rfl)
    simp only [List.getElem_toArray, List.getElem_cons_succ, List.getElem_cons_zero, Act.put, List.setIfInBounds_toArray, List.set_cons_zero, List.set_cons_succ]
    -- 2: Op.call { callee := Callee.value (Operand.func 27), args := 
    refine anyZ_one (i := 2) hcl4 (by kernel_rfl) (by simp only [List.getElem?_toArray, List.getElem?_cons_succ, List.getElem?_cons_zero]; rfl) (by rfl) (fun hcl5 K hK => ?_)
    go_simp
    refine (half_any gd d F c _ (hho.out.below (bdr (bre wc))).st.dk HC.out.1.half (by have := hho.out.few.2; omega)).mono ?_
    rintro e w5 ⟨v5, rfl, ho5, hb5⟩
    have HH5 := Lib.hid ((hho.out.below (bdr (bre wc))).below hb5)
    have HV5 := Lib.hid ho5
    clear ho5 hb5
    refine hK _ _ (fun _ => ?_) ?_
    · exact ⟨HH5.out.cr.c0, HH5.out.cr.c1, HH5.out.cr.c2⟩
    clear hK K hHeld
    have hHeld := (⟨HH5.out.cr.c0, HH5.out.cr.c1, HH5.out.cr.c2⟩ : _ ∧ _ ∧ _)
    try simp only [Act.put, List.setIfInBounds_toArray, List.set_cons_zero, List.set_cons_succ]
    -- 5: Op.call { callee := Callee.value (Operand.func 33), args := 
    refine anyZ_one (i := 5) hcl5 (by kernel_rfl) (by simp only [List.getElem?_toArray, List.getElem?_cons_succ, List.getElem?_cons_zero]; rfl) (by rfl) (fun hcl6 K hK => ?_)
    go_simp
    refine (rfopen_any _ _ c.gen w5 HV5.out.rows HN5.out).mono ?_
    rintro e w6 ⟨s6, P6, so6, hs6, hb6, -, hg6⟩
    obtain ⟨Q, so', hq1, hq2⟩ := HSC.out
    rw [hq1] at hs6
    cases hs6
    obtain ⟨v6, he6, ho6⟩ := hg6 rfl
    subst he6
    rw [hq2] at ho6
    have HH6 := Lib.hid (HH5.out.below hb6)
    have HV6 := Lib.hid ho6
    clear hq1 hq2 hb6 hg6 ho6
    refine hK _ _ (fun _ => ?_) ?_
    · exact ⟨HH6.out.cr.c0, HH6.out.cr.c1, HH6.out.cr.c2⟩
    clear hK K hHeld
    have hHeld := (⟨HH6.out.cr.c0, HH6.out.cr.c1, HH6.out.cr.c2⟩ : _ ∧ _ ∧ _)
    try simp only [Act.put, List.setIfInBounds_toArray, List.set_cons_zero, List.set_cons_succ]
    -- 6: Op.move (Operand.tmp 183)
    refine' anyZ_pure (i := 6) (v := _) rfl (by rfl) (by kernel_rfl) (by kernel_rfl) (by kernel_rfl) hcl6 (fun _ _ _ h => h) (Or.inl ⟨by rfl, fun w _ => ?hy7⟩) (fun _ => hHeld) (fun hcl7 => ?ry7)
    case hy7 => (simp only [List.getElem_toArray, List.getElem_cons_succ, List.getElem_cons_zero]; first | (go_simp; with_reducible rfl) | (go_simp; done) | rfl)
    simp only [List.getElem_toArray, List.getElem_cons_succ, List.getElem_cons_zero, Act.put, List.setIfInBounds_toArray, List.set_cons_zero, List.set_cons_succ]
    -- 7: Op.extract (Operand.tmp 177) 0
    refine' anyZ_pure (i := 7) (v := _) rfl (by rfl) (by kernel_rfl) (by kernel_rfl) (by kernel_rfl) hcl7 (fun _ _ _ h => h) (Or.inl ⟨by rfl, fun w _ => ?hy8⟩) (fun _ => hHeld) (fun hcl8 => ?ry8)
    case hy8 => (simp only [List.getElem_toArray, List.getElem_cons_succ, List.getElem_cons_zero]; first | (go_simp; with_reducible rfl) | (go_simp; done) | rfl)
    simp only [List.getElem_toArray, List.getElem_cons_succ, List.getElem_cons_zero, Act.put, List.setIfInBounds_toArray, List.set_cons_zero, List.set_cons_succ]
    -- 8: Op.extract (Operand.tmp 177) 1
    refine' anyZ_pure (i := 8) (v := _) rfl (by rfl) (by kernel_rfl) (by kernel_rfl) (by kernel_rfl) hcl8 (fun _ _ _ h => h) (Or.inl ⟨by rfl, fun w _ => ?hy9⟩) (fun _ => hHeld) (fun hcl9 => ?ry9)
    case hy9 => (simp only [List.getElem_toArray, List.getElem_cons_succ, List.getElem_cons_zero]; first | (go_simp; with_reducible rfl) | (go_simp; done) | rfl)
    simp only [List.getElem_toArray, List.getElem_cons_succ, List.getElem_cons_zero, Act.put, List.setIfInBounds_toArray, List.set_cons_zero, List.set_cons_succ]
    clear hHeld
    refine anyZ_chain_at (by kernel_rfl) ?_
    simp only [List.drop_succ_cons, List.drop_zero]
    obtain ⟨a6, c6, hv6, -, -, -, -⟩ := id HV6.out.rows
    subst hv6
    go_wp2_with fail
    refine (lsame_any _ _ all all w6 HV6.out.rows HH6.out.recs.rows (by have := HAL.out; omega) (by have := HAL.out; omega)).mono ?_
    rintro e w7 ⟨rfl, hb7⟩
    rw [decide_eq_true rfl]
    have HB7 := Lib.hid (btr HH6.out.st.bel hb7)
    clear hb7 HV6
    go_wp2_with fail
    go_ret
    exact ⟨rfl, HB7.out⟩
end Go.Proofs.YtacfkhnajdneeaaDoor
