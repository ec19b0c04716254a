/- DiskPlays: every script of writes, syncs, rot and crashes, whichever writes survive, leaves just the document's sectors. -/
import Derived.Test.YtkonjjanoifinaaDkActDo
import Derived.Test.YtkonjjanoifinaaDkLike
import Derived.Test.YtkonjjanoifinaaActs
import Derived.Test.YtkonjjanoifinaaDkAwake
import Derived.Test.YtkonjjanoifinaaDkCopy
namespace Go.Proofs.Ytkonjjanoifinaa
open Go.RowKit

theorem rows8 {w : World} {g o : Nat} {a b c d e f x y : Value} (h : w.rangeAt g o [a, b, c, d, e, f, x, y]) :
    w.cell? ⟨g, o, none⟩ = some a ∧ w.cell? ⟨g, o + 1, none⟩ = some b ∧ w.cell? ⟨g, o + 2, none⟩ = some c ∧ w.cell? ⟨g, o + 3, none⟩ = some d ∧ w.cell? ⟨g, o + 4, none⟩ = some e ∧ w.cell? ⟨g, o + 5, none⟩ = some f ∧ w.cell? ⟨g, o + 6, none⟩ = some x ∧ w.cell? ⟨g, o + 7, none⟩ = some y :=
  ⟨h 0 a rfl, h 1 b rfl, h 2 c rfl, h 3 d rfl, h 4 e rfl, h 5 f rfl, h 6 x rfl, h 7 y rfl⟩

/-- a call that lies in a list of calls, below B -/
theorem act_at {w : World} {a : Option Addr} {c : Nat} {l : List Actn} (h : Acts w (.slice a l.length c) l) (k : Nat) (x : Actn) (hx : l[k]? = some x) :
    ∃ g o vp vk, a = some ⟨g, o, none⟩ ∧ g < w.heap.size ∧ w.rangeAt g (o + k * 8) [.int .u8 x.do_, .int .i64 x.i, vp, .bool x.odd, .int .i64 x.bit, .int .i64 x.n, .int .u32 x.mask, vk] ∧ Bytes w vp x.p ∧ Bools w vk x.keep ∧ x.Ok := by
  obtain ⟨a', c', e, _, _, _, hr⟩ := h
  cases e
  rcases hr with h0 | ⟨g, o, ha, hr⟩
  · rw [h0] at hx; simp at hx
  · obtain ⟨us, hus, hrg, ⟨vp, vk, hue, hp, hk⟩, hok⟩ := hr k x hx
    have hue' : us = [.int .u8 x.do_, .int .i64 x.i, vp, .bool x.odd, .int .i64 x.bit, .int .i64 x.n, .int .u32 x.mask, vk] := by
      have := Value.agg.inj hue
      have h2 := congrArg Array.toList this
      simpa using h2
    subst hue'
    exact ⟨g, o, vp, vk, ha, block_lt_of_cell (hrg 0 _ rfl), hrg, hp, hk, hok⟩

theorem bytes_old {w : World} {a : Option Addr} {n c : Nat} {p : List UInt8} (h : Bytes w (.slice a n c) p) (hne : p ≠ []) : ∀ g o, a = some ⟨g, o, none⟩ → g < w.heap.size := by
  intro g o ha
  obtain ⟨a', c', e, _, _, _, hr⟩ := h.lies
  cases e
  rcases hr with h0 | ⟨g', o', ha', hr⟩
  · exact absurd (List.map_eq_nil_iff.1 h0) hne
  · rw [ha] at ha'
    cases ha'
    obtain ⟨b, l, rfl⟩ := List.exists_cons_of_ne_nil hne
    exact block_lt_of_cell (hr 0 (B8 b) rfl)

set_option maxRecDepth 10000 in
set_option maxHeartbeats 6400000 in
theorem plays_calls (HRD : RefDoSpec) (sectors : Nat) (v1 : Value) (l : List Actn) (w : World) (hs : sectors < 256) (hl : Acts w v1 l) :
    Calls Try.prog 7 #[.int .u8 sectors, v1] w fun e w' => e = .returned (.bool true) ∧ Below w.heap.size w w' := by
  obtain ⟨aa, ca, rfl, hlm, hlc, _, _⟩ := id hl
  unfold maxLen at hlm
  have HL := Lib.hid hl
  clear hl
  obtain ⟨q, hq⟩ : ∃ q : Nat, q = sectors % 6 := ⟨_, rfl⟩
  have hki : (sectors : Int) % 6 = q := by omega
  have hq6 : q < 6 := by omega
  clear hq
  go_enter Try.func7, Try.ntmps7
  go_wp2_with fail
  refine (awake_any w).mono ?_
  rintro e w1 ⟨rfl, hb1⟩
  have hnew := new_any (1 + q) w1 (by omega) (by omega)
  rw [show (((1 + q : Nat)) : Int) = 1 + (q : Int) by omega] at hnew
  have HNEW := Lib.hid hnew
  clear hnew
  go_wp2_with fail
  refine HNEW.out.mono ?_
  rintro e w2 ⟨g, F, rfl, hd2, hF2, hb2⟩
  have hrnew := refnew_any (1 + q) w2 (by omega)
  rw [show (((1 + q : Nat)) : Int) = 1 + (q : Int) by omega] at hrnew
  have HRN := Lib.hid hrnew
  clear hrnew
  go_wp2_with fail
  refine HRN.out.mono ?_
  rintro e w3 ⟨r, G, rfl, hr3, hG3, hb3⟩
  have hd3 := hd2.below hb3
  have hb03 := btr (btr hb1 hb2) hb3
  have hFG : ∀ k, F k → ¬ G k := fun k hF hG => by have h1 := hd2.lt k hF; have h2 := hG3 k hG; omega
  have hFw : ∀ k, F k → w.heap.size ≤ k := fun k hk => Nat.le_trans hb1.size (hF2 k hk)
  have hGw : ∀ k, G k → w.heap.size ≤ k := fun k hk => Nat.le_trans (btr hb1 hb2).size (hG3 k hk)
  have hsd : (Dk.new (1 + q)).Sound 0 := ⟨fun h => (by cases h), (by show (0 : Int) ≤ _; omega), Nat.le_refl _, Nat.le_refl _⟩
  have HD3 := Lib.hid hd3
  have HR3 := Lib.hid hr3
  have HB3 := Lib.hid hb03
  have HFG := Lib.hid hFG
  have HFW := Lib.hid hFw
  have HGW := Lib.hid hGw
  have HSD := Lib.hid hsd
  clear hd2 hF2 hb1 hb2 hb3 hr3 hd3 hb03 hFG hFw hGw hsd hG3 HNEW HRN hki
  go_wp2_with fail
  go_loopw [6, 8, 9, 10, 11, 12, 13, 35] (fun vd vx vw _ _ _ _ j wr => ∃ (k : Nat) (dd : Dk) (g r : Nat) (F G : Nat → Prop), vd = .pointer (some ⟨g, 0, none⟩) ∧ vx = .pointer (some ⟨r, 0, none⟩) ∧ vw = .int .i64 dd.count ∧ j = .int .i64 k ∧ k ≤ l.length ∧ k ≤ 30 ∧
      Hid (DiskAt wr g dd F) ∧ Hid (RefAt wr r dd G) ∧ Hid (∀ k, F k → ¬ G k) ∧ Hid (∀ k, F k → w.heap.size ≤ k) ∧ Hid (∀ k, G k → w.heap.size ≤ k) ∧ Hid (dd.Sound k) ∧ Hid (Below w.heap.size w wr)) (fun _ _ _ _ _ _ _ j _ => l.length - (intOf j).toNat)
  case atStart => exact ⟨0, Dk.new (1 + q), g, r, F, G, rfl, rfl, rfl, rfl, by omega, by omega, HD3, HR3, HFG, HFW, HGW, HSD, HB3⟩
  case round =>
    obtain ⟨k, dd, g, r, F, G, rfl, rfl, rfl, rfl, hk, hk30, HD, HR, HFG, HFW, HGW, HSD, HB⟩ := hrel
    by_cases hlt : k < l.length
    · obtain ⟨x, hx⟩ : ∃ x, l[k]? = some x := ⟨_, List.getElem?_eq_getElem hlt⟩
      obtain ⟨ga, oa, vp, vk, rfl, hga, hrg, hvp, hvk, hok⟩ := act_at HL.out k x hx
      obtain ⟨c0, c1, c2, c3, c4, c5, c6, c7⟩ := rows8 hrg
      have d0 := (HB.out.cell (p := ⟨ga, oa + k * 8, none⟩) hga).trans c0
      have d1 := (HB.out.cell (p := ⟨ga, oa + k * 8 + 1, none⟩) hga).trans c1
      have d2 := (HB.out.cell (p := ⟨ga, oa + k * 8 + 2, none⟩) hga).trans c2
      have d3 := (HB.out.cell (p := ⟨ga, oa + k * 8 + 3, none⟩) hga).trans c3
      have d4 := (HB.out.cell (p := ⟨ga, oa + k * 8 + 4, none⟩) hga).trans c4
      have d5 := (HB.out.cell (p := ⟨ga, oa + k * 8 + 5, none⟩) hga).trans c5
      have d6 := (HB.out.cell (p := ⟨ga, oa + k * 8 + 6, none⟩) hga).trans c6
      have d7 := (HB.out.cell (p := ⟨ga, oa + k * 8 + 7, none⟩) hga).trans c7
      clear c0 c1 c2 c3 c4 c5 c6 c7 hrg hx
      obtain ⟨ap, cp, rfl, _⟩ := id hvp
      obtain ⟨ak, ck, rfl, _⟩ := id hvk
      have HVP := Lib.hid hvp
      have HVK := Lib.hid hvk
      have HOK := Lib.hid hok
      clear hvp hvk hok
      by_cases h30 : k < 30
      · go_upto_region 13 with fail
        obtain ⟨n1, hn1⟩ : ∃ n1, n1 = wr.heap.size := ⟨_, rfl⟩
        have hrn := heap_alloc_new wr (.cells #[.int .u8 x.do_, .int .i64 x.i, .slice ap x.p.length cp, .bool x.odd, .int .i64 x.bit, .int .i64 x.n, .int .u32 x.mask, .slice ak x.keep.length ck] 52)
        have hbn := bal (bre wr) (.cells #[.int .u8 x.do_, .int .i64 x.i, .slice ap x.p.length cp, .bool x.odd, .int .i64 x.bit, .int .i64 x.n, .int .u32 x.mask, .slice ak x.keep.length ck] 52)
        have hsn : (wr.alloc (.cells #[.int .u8 x.do_, .int .i64 x.i, .slice ap x.p.length cp, .bool x.odd, .int .i64 x.bit, .int .i64 x.n, .int .u32 x.mask, .slice ak x.keep.length ck] 52)).heap.size = n1 + 1 := by rw [hn1]; simp
        rw [← hn1] at hrn ⊢
        generalize wr.alloc (.cells #[.int .u8 x.do_, .int .i64 x.i, .slice ap x.p.length cp, .bool x.odd, .int .i64 x.bit, .int .i64 x.n, .int .u32 x.mask, .slice ak x.keep.length ck] 52) = W1 at *
        have hFn : ∀ k, F k → k < n1 := fun k hk => by rw [hn1]; exact HD.out.lt k hk
        have hGn : ∀ k, G k → k < n1 := fun k hk => by rw [hn1]; exact HR.out.lt k hk
        have hD1 := HD.out.below hbn
        have hR1 := HR.out.below hbn
        have hB1 := HB.out.trans (hbn.mono HB.out.size)
        have hw1 : w.heap.size ≤ n1 := by rw [hn1]; exact HB.out.size
        obtain ⟨f0, f1, f2, f3, f4, f5, f6, f7, ff⟩ := arow8 hrn
        have hact1 : ActAt W1 (.agg #[.int .u8 x.do_, .int .i64 x.i, .slice ap x.p.length cp, .bool x.odd, .int .i64 x.bit, .int .i64 x.n, .int .u32 x.mask, .slice ak x.keep.length ck]) x := ⟨_, _, rfl, HVP.out.below hB1, HVK.out.below hB1⟩
        have hpf : x.p ≠ [] → ∀ vs, Value.agg #[.int .u8 x.do_, .int .i64 x.i, .slice ap x.p.length cp, .bool x.odd, .int .i64 x.bit, .int .i64 x.n, .int .u32 x.mask, .slice ak x.keep.length ck] = .agg vs → ∀ g o n c, vs[2]? = some (.slice (some ⟨g, o, none⟩) n c) → ¬ G g := fun hne vs e g o n c hv hG => by
          cases e
          cases hv
          have h1 := bytes_old HVP.out hne g o rfl
          have h2 := HGW.out g hG
          omega
        have HA := Lib.hid (HRD r dd G _ x W1 k hR1 hact1 HOK.out HSD.out (by omega) hpf)
        have HRN := Lib.hid hrn
        have HD1 := Lib.hid hD1
        have HB1 := Lib.hid hB1
        have HFN := Lib.hid hFn
        have HGN := Lib.hid hGn
        have HW1 := Lib.hid hw1
        have HSN := Lib.hid hsn
        clear d0 d1 d2 d3 d4 d5 d6 d7 hrn hD1 hB1 hFn hGn hw1 hsn hR1 hact1 hpf hbn hn1
        obtain ⟨E, hE⟩ : ∃ E, E = (dd.act x).1 := ⟨_, rfl⟩
        obtain ⟨d9, hd9⟩ : ∃ d9, d9 = (dd.act x).2 := ⟨_, rfl⟩
        have hsound := dd.act_sound x k HSD.out HOK.out
        have hcount := dd.act_count x
        rw [← hd9] at hsound hcount
        rw [← hE] at hcount
        have HSO := Lib.hid hsound
        have HCO := Lib.hid hcount
        have HE := Lib.hid hE
        have HD9 := Lib.hid hd9
        clear hE hd9 hsound hcount
        go_upto_region 15 with fail
        go_wp2_with fail
        refine HA.out.mono ?_
        rintro e w2 ⟨r2, G2, rfl, hr2, hm2⟩
        rw [← HE.out]
        rw [← HD9.out] at hr2
        obtain ⟨hd2, hFG2⟩ := moved_disk hm2 HD1.out HFG.out
        have hGn2 : ¬ G2 n1 := fun h => by
          have h1 := HSN.out
          rcases hm2.fresh n1 h with h | h
          · have := HGN.out n1 h; omega
          · omega
        have hrn2 := (hm2.only.block n1 (Array.getElem?_eq_some_iff.1 HRN.out).1 (fun h => by have := HGN.out n1 h; omega)).trans HRN.out
        have hB2 := HB1.out.trans (hm2.below HB1.out.size HGW.out)
        have hGw2 := hm2.ge HB1.out.size HGW.out
        have hs2 := hm2.only.size
        obtain ⟨f0', f1', f2', f3', f4', f5', f6', f7', ff'⟩ := arow8 hrn2
        have hact2 : ActAt w2 (.agg #[.int .u8 x.do_, .int .i64 x.i, .slice ap x.p.length cp, .bool x.odd, .int .i64 x.bit, .int .i64 x.n, .int .u32 x.mask, .slice ak x.keep.length ck]) x := ⟨_, _, rfl, HVP.out.below hB2, HVK.out.below hB2⟩
        have HA2 := Lib.hid (do_any g dd F _ x w2 k hd2 hact2 HOK.out HSD.out (by omega))
        have HR2 := Lib.hid hr2
        have HFG2 := Lib.hid hFG2
        have HGN2 := Lib.hid hGn2
        have HRN2 := Lib.hid hrn2
        have HB2 := Lib.hid hB2
        have HGW2 := Lib.hid hGw2
        have HS2 := Lib.hid hs2
        clear hr2 hFG2 hGn2 hrn2 hB2 hGw2 hs2 hd2 hact2 hm2 f0 f1 f2 f3 f4 f5 f6 f7 ff HA
        go_wp2_with fail
        refine HA2.out.mono ?_
        rintro e w3 ⟨g3, F3, rfl, hd3, hm3⟩
        rw [← HE.out]
        rw [← HD9.out] at hd3
        obtain ⟨hr3, hGF3⟩ := moved_ref hm3 HR2.out (fun k hG hF => HFG2.out k hF hG)
        have hrn3 := (hm3.only.block n1 (Array.getElem?_eq_some_iff.1 HRN2.out).1 (fun h => by have := HFN.out n1 h; omega)).trans HRN2.out
        have hB3 := HB2.out.trans (hm3.below HB2.out.size HFW.out)
        have hFw3 := hm3.ge HB2.out.size HFW.out
        have hFn3 : ¬ F3 n1 := fun h => by
          have h1 := HSN.out
          have h2 := HS2.out
          rcases hm3.fresh n1 h with h | h
          · have := HFN.out n1 h; omega
          · omega
        have hlk := like_any g3 r2 d9 d9 F3 G2 w3 hd3 hr3 rfl rfl (by have := HSO.out.wait; omega)
        have HLK := Lib.hid hlk
        have HD3 := Lib.hid hd3
        have HR3 := Lib.hid hr3
        have HGF3 := Lib.hid hGF3
        have HB3 := Lib.hid hB3
        have HFW3 := Lib.hid hFw3
        have HRN3 := Lib.hid hrn3
        clear hd3 hr3 hGF3 hB3 hFw3 hFn3 hrn3 hlk hm3 f0' f1' f2' f3' f4' f5' f6' f7' ff' HA2
        go_wp2_with fail
        refine HLK.out.mono ?_
        rintro e w4 ⟨rfl, hb4⟩
        have hrn4 := (hb4.block n1 (Array.getElem?_eq_some_iff.1 HRN3.out).1).trans HRN3.out
        obtain ⟨f0, _, _, _, _, _, _, _, _⟩ := arow8 hrn4
        have hd4 := HD3.out.below hb4
        have hr4 := HR3.out.below hb4
        have hB4 := HB3.out.trans (hb4.mono HB3.out.size)
        have hwr := writes_any g3 d9 F3 w4 hd4
        have HWR := Lib.hid hwr
        have HD4 := Lib.hid hd4
        have HR4 := Lib.hid hr4
        have HB4 := Lib.hid hB4
        have hFG4 : ∀ k, F3 k → ¬ G2 k := fun k hF hG => HGF3.out k hG hF
        have HFG4 := Lib.hid hFG4
        clear hrn4 hd4 hr4 hB4 hwr hb4 hFG4
        obtain ⟨z, hz⟩ : ∃ z, z = x.do_ % 7 := ⟨_, rfl⟩
        have hzI : (x.do_ : Int) % 7 = z := by omega
        have hx8 := HOK.out.do_
        have hz7 : z < 7 := by omega
        have hco := HCO.out
        rw [← hz] at hco
        have hcb : dd.count ≤ 30 := by have := HSD.out.count; omega
        clear hz
        rcases (by omega : z = 5 ∨ (z ≠ 5 ∧ z < 3) ∨ (z ≠ 5 ∧ ¬ z < 3)) with h5 | ⟨h5, h3⟩ | ⟨h5, h3⟩
        · subst h5
          rw [if_pos rfl] at hco
          have hcoI : (d9.count : Int) = 0 := by omega
          go_wp2_with fail
          refine HWR.out.mono ?_
          rintro e w5 ⟨rfl, rfl⟩
          go_wp2_with fail
          go_roundw
          case rel => first | exact ⟨k + 1, d9, g3, r2, F3, G2, rfl, rfl, by rw [hcoI], by go_num, by omega, by omega, HD4, HR4, HFG4, HFW3, HGW2, HSO, HB4⟩ | ((repeat apply Exists.intro); exact ⟨⟨k + 1, d9, g3, r2, F3, G2, rfl, rfl, by rw [hcoI], by go_num, by omega, by omega, HD4, HR4, HFG4, HFW3, HGW2, HSO, HB4⟩, rfl⟩)
          case measure => first | (simp [intOf]; done) | (simp [intOf]; omega)
        · rw [if_neg h5] at hco
          have hz5 : ((z : Int) == 5) = false := by simp; omega
          have hy5 : decide ((z : Int) = 5) = false := decide_eq_false (by omega)
          have hz3 : decide ((z : Int) < 3) = true := decide_eq_true (by omega)
          by_cases hE0 : E = 0
          · subst hE0
            rw [if_pos ⟨h3, rfl⟩] at hco
            have hcoI : (d9.count : Int) = dd.count + 1 := by omega
            go_wp2_with fail
            refine HWR.out.mono ?_
            rintro e w5 ⟨rfl, rfl⟩
            go_wp2_with fail
            go_roundw
            case rel => first | exact ⟨k + 1, d9, g3, r2, F3, G2, rfl, rfl, by rw [hcoI], by go_num, by omega, by omega, HD4, HR4, HFG4, HFW3, HGW2, HSO, HB4⟩ | ((repeat apply Exists.intro); exact ⟨⟨k + 1, d9, g3, r2, F3, G2, rfl, rfl, by rw [hcoI], by go_num, by omega, by omega, HD4, HR4, HFG4, HFW3, HGW2, HSO, HB4⟩, rfl⟩)
            case measure => first | (simp [intOf]; done) | (simp [intOf]; omega)
          · rw [if_neg (fun h => hE0 h.2)] at hco
            have hcoI : (d9.count : Int) = dd.count := by omega
            have hE1 : (E == 0) = false := by simpa using hE0
            have hE2 : decide (E = 0) = false := decide_eq_false hE0
            go_wp2_with fail
            refine HWR.out.mono ?_
            rintro e w5 ⟨rfl, rfl⟩
            go_wp2_with fail
            go_roundw
            case rel => first | exact ⟨k + 1, d9, g3, r2, F3, G2, rfl, rfl, by rw [hcoI], by go_num, by omega, by omega, HD4, HR4, HFG4, HFW3, HGW2, HSO, HB4⟩ | ((repeat apply Exists.intro); exact ⟨⟨k + 1, d9, g3, r2, F3, G2, rfl, rfl, by rw [hcoI], by go_num, by omega, by omega, HD4, HR4, HFG4, HFW3, HGW2, HSO, HB4⟩, rfl⟩)
            case measure => first | (simp [intOf]; done) | (simp [intOf]; omega)
        · rw [if_neg h5, if_neg (fun h => h3 h.1)] at hco
          have hz5 : ((z : Int) == 5) = false := by simp; omega
          have hy5 : decide ((z : Int) = 5) = false := decide_eq_false (by omega)
          have hz3 : decide ((z : Int) < 3) = false := decide_eq_false (by omega)
          have hcoI : (d9.count : Int) = dd.count := by omega
          go_wp2_with fail
          refine HWR.out.mono ?_
          rintro e w5 ⟨rfl, rfl⟩
          go_wp2_with fail
          go_roundw
          case rel => first | exact ⟨k + 1, d9, g3, r2, F3, G2, rfl, rfl, by rw [hcoI], by go_num, by omega, by omega, HD4, HR4, HFG4, HFW3, HGW2, HSO, HB4⟩ | ((repeat apply Exists.intro); exact ⟨⟨k + 1, d9, g3, r2, F3, G2, rfl, rfl, by rw [hcoI], by go_num, by omega, by omega, HD4, HR4, HFG4, HFW3, HGW2, HSO, HB4⟩, rfl⟩)
          case measure => first | (simp [intOf]; done) | (simp [intOf]; omega)
      · have e : k = 30 := by omega
        subst e
        have hltI : (30 : Int) < l.length := by omega
        clear hlt h30
        go_upto_region 26 with fail
        have hbn := bal (bre wr) (.cells #[.int .u8 x.do_, .int .i64 x.i, .slice ap x.p.length cp, .bool x.odd, .int .i64 x.bit, .int .i64 x.n, .int .u32 x.mask, .slice ak x.keep.length ck] 52)
        have hD1 := HD.out.below hbn
        have hR1 := HR.out.below hbn
        have hB1 := HB.out.trans (hbn.mono HB.out.size)
        generalize wr.alloc (.cells #[.int .u8 x.do_, .int .i64 x.i, .slice ap x.p.length cp, .bool x.odd, .int .i64 x.bit, .int .i64 x.n, .int .u32 x.mask, .slice ak x.keep.length ck] 52) = wr at *
        clear HD HR HB
        have HD := Lib.hid hD1
        have HR := Lib.hid hR1
        have HB := Lib.hid hB1
        clear hD1 hR1 hB1
        have hwl : dd.wait.length ≤ 1000000 := by have := HSD.out.wait; omega
        go_wp2_with fail
        refine (copy_ok g dd F wr HD.out hwl).mono ?_
        rintro e w4 ⟨g4, F4, rfl, hd4, hF4, hb4⟩
        have hlk := like_any g4 r dd.copied dd F4 G w4 hd4 (HR.out.below hb4) rfl rfl hwl
        have HLK := Lib.hid hlk
        have hB4 := HB.out.trans (hb4.mono HB.out.size)
        have hD4 := HD.out.below hb4
        have HB4 := Lib.hid hB4
        have HD4 := Lib.hid hD4
        clear hlk hB4 hD4 hd4 hF4 hb4
        go_wp2_with fail
        refine HLK.out.mono ?_
        rintro e w5 ⟨rfl, hb5⟩
        have hB5 := HB4.out.trans (hb5.mono HB4.out.size)
        have hD5 := HD4.out.below hb5
        have HB5 := Lib.hid hB5
        have HD5 := Lib.hid hD5
        clear hB5 hD5 hb5
        go_wp2_with fail
        refine (copy_ok g dd F w5 HD5.out hwl).mono ?_
        rintro e w6 ⟨g6, F6, rfl, hd6, hF6, hb6⟩
        have hwr := writes_any g6 dd.copied F6 w6 hd6
        have HWR := Lib.hid hwr
        have HB6 := Lib.hid (HB5.out.trans (hb6.mono HB5.out.size))
        clear hwr hd6 hF6 hb6
        go_wp2_with fail
        refine HWR.out.mono ?_
        rintro e w7 ⟨rfl, rfl⟩
        go_wp2_with fail
        go_ret
        exact ⟨rfl, HB6.out⟩
    · have e : k = l.length := by omega
      subst e
      have hwl : dd.wait.length ≤ 1000000 := by have := HSD.out.wait; omega
      go_wp2_with fail
      refine (copy_ok g dd F wr HD.out hwl).mono ?_
      rintro e w4 ⟨g4, F4, rfl, hd4, hF4, hb4⟩
      have hlk := like_any g4 r dd.copied dd F4 G w4 hd4 (HR.out.below hb4) rfl rfl hwl
      have HLK := Lib.hid hlk
      have hB4 := HB.out.trans (hb4.mono HB.out.size)
      have hD4 := HD.out.below hb4
      have HB4 := Lib.hid hB4
      have HD4 := Lib.hid hD4
      clear hlk hB4 hD4 hd4 hF4 hb4
      go_wp2_with fail
      refine HLK.out.mono ?_
      rintro e w5 ⟨rfl, hb5⟩
      have hB5 := HB4.out.trans (hb5.mono HB4.out.size)
      have hD5 := HD4.out.below hb5
      have HB5 := Lib.hid hB5
      have HD5 := Lib.hid hD5
      clear hB5 hD5 hb5
      go_wp2_with fail
      refine (copy_ok g dd F w5 HD5.out hwl).mono ?_
      rintro e w6 ⟨g6, F6, rfl, hd6, hF6, hb6⟩
      have hwr := writes_any g6 dd.copied F6 w6 hd6
      have HWR := Lib.hid hwr
      have HB6 := Lib.hid (HB5.out.trans (hb6.mono HB5.out.size))
      clear hwr hd6 hF6 hb6
      go_wp2_with fail
      refine HWR.out.mono ?_
      rintro e w7 ⟨rfl, rfl⟩
      go_wp2_with fail
      go_ret
      exact ⟨rfl, HB6.out⟩
end Go.Proofs.Ytkonjjanoifinaa
