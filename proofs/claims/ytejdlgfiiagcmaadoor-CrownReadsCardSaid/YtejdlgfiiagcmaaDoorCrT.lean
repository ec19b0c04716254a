/- CrownReads, the walk. -/
import Derived.Test.YtejdlgfiiagcmaaDoorCrP
import Derived.Test.YtejdlgfiiagcmaaDoorCrQ
import Derived.Test.YtejdlgfiiagcmaaDoorCrS
import Derived.Deep.CutBlock
namespace Go.Proofs.YtejdlgfiiagcmaaDoor
open Go.RowKit

theorem crv (c : Cr) : CrVal c = .agg #[.int .u32 c.gen, .int .u8 c.half, .int .u32 c.serial] := rfl

/-- the disk behind k sectors -/
def dR (q0 q1 : List UInt8) : Nat → Dk
  | 0 => Dk.new 6
  | 1 => (Dk.new 6).wrote 0 q0
  | _ => ((Dk.new 6).wrote 0 q0).wrote 1 q1

theorem dR_read (q0 q1 : List UInt8) : readOf (dR q0 q1 2).now = readOf (fun j => if j = 0 then q0 else q1) :=
  readOf_congr _ _ fun j hj => by
    show ((((Dk.new 6).wrote 0 q0).wrote 1 q1).now j) = _
    rw [wrote_now, wrote_now]
    rcases (by omega : j = 0 ∨ j = 1) with rfl | rfl
    · rfl
    · rfl

theorem dR_facts (q0 q1 : List UInt8) (k : Nat) (hk : k ≤ 2) : (dR q0 q1 k).safe.length = 6 ∧ (dR q0 q1 k).bound = false ∧ (dR q0 q1 k).left = 0 ∧ (dR q0 q1 k).count ≤ 2 ∧ (dR q0 q1 k).wait.length ≤ 2 := by
  rcases (by omega : k = 0 ∨ k = 1 ∨ k = 2) with rfl | rfl | rfl
  · exact ⟨List.length_replicate, rfl, rfl, by show 0 ≤ 2; decide, by show 0 ≤ 2; decide⟩
  · exact ⟨List.length_replicate, rfl, rfl, by show 0 + 1 ≤ 2; decide, by show 1 ≤ 2; decide⟩
  · exact ⟨List.length_replicate, rfl, rfl, by show 0 + 1 + 1 ≤ 2; decide, by show 2 ≤ 2; decide⟩

theorem dR_step (q0 q1 q : List UInt8) (k : Nat) (hk : k < 2) : (dR q0 q1 k).wrote k q = dR (if k = 0 then q else q0) (if k = 0 then q1 else q) (k + 1) := by
  rcases (by omega : k = 0 ∨ k = 1) with rfl | rfl <;> rfl

def Away (v : Value) (F : Nat → Prop) : Prop := ∀ g o n c, v = .slice (some ⟨g, o, none⟩) n c → ¬ F g

theorem bytes_lt' {w : World} {k i n c : Nat} {l : List UInt8} (h : Bytes w (.slice (some ⟨k, i, none⟩) n c) l) (hl : l ≠ []) : k < w.heap.size := by
  obtain ⟨a', c', e, _, _, _, h | ⟨g, o, ha, h⟩⟩ := h
  · exact absurd h hl
  · cases e
    cases ha
    cases l with
    | nil => exact absurd rfl hl
    | cons b l =>
      obtain ⟨u, hu, _⟩ := h 0 b rfl
      exact block_lt_of_cell hu

theorem moved_bytes {w w' : World} {F F' : Nat → Prop} {v : Value} {p : List UInt8} (hm : Moved w w' F F') (hv : Bytes w v p) (hne : p ≠ []) (ha : Away v F) : Bytes w' v p ∧ Away v F' := by
  refine ⟨hv.only hm.only fun g o n c _ e => ha g o n c e, fun g o n c e hF => ?_⟩
  rcases hm.fresh g hF with h | h
  · exact ha g o n c e h
  · subst e
    have := bytes_lt' hv hne
    omega

theorem away_own {e : TypeId} {B : Nat} {w : World} {v : Value} {l : List UInt8} {F : Nat → Prop} (h : Own8 e B w v l) (hF : ∀ k, F k → k < B) : Away v F := fun g o n c e hf => by
  subst e
  have := (World.ownsRow.lt h g rfl).1
  have := hF g hf
  omega

theorem two_slices (a0 a1 : Option Addr) (n0 n1 c0 c1 : Nat) : ∀ (j : Nat) b, (#[Value.slice a0 n0 c0, Value.slice a1 n1 c1] : Array Value)[j]? ≠ some (B8 b) := by
  intro j b h
  rcases j with _ | _ | j
  · cases h
  · cases h
  · simp at h

/-- a sector's bytes are other than the cells that hold both -/
theorem apart_cells {w : World} {g T : Nat} {u u0 u1 : Value} {l : List UInt8} (hg : w.heap[g]? = some (.cells #[u0, u1] T (0, 0))) (h0 : ∃ a n c, u0 = .slice a n c) (h1 : ∃ a n c, u1 = .slice a n c) (h : Bytes w u l) (hl : l ≠ []) : Away u (fun k => k = g) := by
  obtain ⟨a0, n0, c0, rfl⟩ := h0
  obtain ⟨a1, n1, c1, rfl⟩ := h1
  exact fun k o n c e hk => bytes_apart hg (two_slices a0 a1 n0 n1 c0 c1) h k o n c hl e hk

theorem kinds9 (h : Nat) (hh : h < 256) : IntKind.u8.wrap (1 + (h : Int) % 9) = ((1 + h % 9 : Nat) : Int) ∧ (1 : Int) + (h : Int) % 9 = ((1 + h % 9 : Nat) : Int) ∧ ((h : Int).tmod 9) = (h : Int) % 9 := by
  refine ⟨?_, by omega, Int.tmod_eq_emod_of_nonneg (by omega)⟩
  simp [IntKind.wrap, IntKind.signed, IntKind.bits]
  omega

theorem switch8 (how k : Nat) : ∃ s : Nat, ((how : Int) / 2 ^ (4 * k)).tmod 8 = (s : Int) := by
  refine ⟨how / 2 ^ (4 * k) % 8, ?_⟩
  have h1 : (how : Int) / 2 ^ (4 * k) = ((how / 2 ^ (4 * k) : Nat) : Int) := by simp
  rw [h1]
  generalize how / 2 ^ (4 * k) = c
  rw [Int.tmod_eq_emod_of_nonneg (by omega)]
  omega

/-- the state of the inner loop -/
structure TurnRel (W : World) (s mask g c : Nat) (q : List UInt8) (k : Nat) (wr : World) : Prop where
  own : Own8 5 W.heap.size wr (.slice (some ⟨g, 0, none⟩) 512 c) (turns8 s mask k q)
  below : Below W.heap.size W wr

theorem xor_byte (x t : Nat) (hx : x < 2 ^ 8) (ht : t < 8) : bits .xor .u8 (x : Int) (2 ^ t % 256) = ((x ^^^ 2 ^ t : Nat) : Int) := by
  have h1 : (2 : Int) ^ t % 256 = ((2 ^ t : Nat) : Int) := by
    have h := Crc.pow_lt8 ht
    have e : (2 : Int) ^ t = ((2 ^ t : Nat) : Int) := by simp
    rw [e]
    generalize 2 ^ t = y at h
    omega
  rw [h1]
  exact u8_xor_nat x _ hx (Crc.pow_lt8 ht)

theorem mask_bit (mask k : Nat) : (((mask : Int) / 2 ^ k).tmod 2 == 1) = decide (mask / 2 ^ k % 2 = 1) := by
  have h1 : (mask : Int) / 2 ^ k = ((mask / 2 ^ k : Nat) : Int) := by simp
  rw [h1]
  generalize mask / 2 ^ k = c
  rw [Int.tmod_eq_emod_of_nonneg (by omega), Bool.eq_iff_iff]
  simp
  omega

/-- behind k rounds -/
structure ReadsRel (w : World) (g n15 n35 : Nat) (a b : Cr) (k : Nat) (wr : World) : Prop where
  ex : ∃ (F : Nat → Prop) (q0 q1 : List UInt8) (u0 u1 : Value), DiskAt wr g (dR q0 q1 k) F ∧ (∀ j, F j → w.heap.size ≤ j) ∧ ¬ F n15 ∧ ¬ F n35 ∧
    wr.heap[n15]? = some (.cells #[u0, u1] 32 (0, 0)) ∧ ((∃ a n c, u0 = .slice a n c) ∧ (∃ a n c, u1 = .slice a n c)) ∧
    (0 < k → q0.length = 512 ∧ Bytes wr u0 q0 ∧ Away u0 F) ∧ (1 < k → q1.length = 512 ∧ Bytes wr u1 q1 ∧ Away u1 F)
  row : wr.heap[n35]? = some (.cells #[.int .u32 a.gen, .int .u8 a.half, .int .u32 a.serial, .int .u32 b.gen, .int .u8 b.half, .int .u32 b.serial] 24 (0, 0))
  below : Below w.heap.size w wr

set_option linter.unusedSimpArgs false in
set_option maxRecDepth 60000 in
set_option maxHeartbeats 6400000 in
theorem reads_calls (a b : Cr) (oa : a.Ok) (ob : b.Ok) (vr : Value) (raw : List UInt8) (at' mask how : Nat) (hat : at' < 65536) (hmask : mask < 4294967296) (w : World) (hr : Bytes w vr raw) :
    Calls Tryd.prog 3 #[CrVal a, CrVal b, vr, .int .u16 at', .int .u32 mask, .int .u8 how] w fun e w' => e = .returned (.bool true) ∧ Below w.heap.size w w' := by
  have HR := Lib.hid hr
  obtain ⟨ar, cr, rfl, -, -, -, -⟩ := id hr
  have OA := Lib.hid oa
  have OB := Lib.hid ob
  have HM := Lib.hid hmask
  obtain ⟨lr, hlr⟩ : ∃ l, l = raw.length := ⟨_, rfl⟩
  rw [← hlr] at HR ⊢
  have HLR := Lib.hid hlr
  clear hr oa ob hmask hlr
  rw [crv a, crv b]
  go_enter Tryd.func3, Tryd.ntmps3
  go_upto_region 1 with fail
  have hb0 := bal (bal (bre w) (.cells #[.int .u32 a.gen, .int .u8 a.half, .int .u32 a.serial] 24)) (.cells #[.int .u32 b.gen, .int .u8 b.half, .int .u32 b.serial] 24)
  obtain ⟨hr1, hr2⟩ := box_two w (.cells #[.int .u32 a.gen, .int .u8 a.half, .int .u32 a.serial] 24) (.cells #[.int .u32 b.gen, .int .u8 b.half, .int .u32 b.serial] 24)
  generalize (w.alloc (.cells #[.int .u32 a.gen, .int .u8 a.half, .int .u32 a.serial] 24)).alloc (.cells #[.int .u32 b.gen, .int .u8 b.half, .int .u32 b.serial] 24) = W at *
  obtain ⟨n6, hn6⟩ : ∃ n, n = w.heap.size := ⟨_, rfl⟩
  rw [← hn6] at hr1 hr2 ⊢
  obtain ⟨n7, hn7⟩ : ∃ n, n = n6 + 1 := ⟨_, rfl⟩
  rw [← hn7] at hr2
  try rw [← hn7]
  have hR1 : Row3 W n6 a := hr1
  have hR2 : Row3 W n7 b := hr2
  have HB0 := Lib.hid hb0
  have HR1 := Lib.hid hR1
  have HR2 := Lib.hid hR2
  clear hb0 hr1 hr2 hR1 hR2 hn6 hn7
  go_wp2_with fail
  refine (awake_any W).mono ?_
  rintro e w1 ⟨rfl, hb1⟩
  have HB1 := Lib.hid (HB0.out.trans (hb1.mono HB0.out.size))
  have HR11 := Lib.hid (HR1.out.below hb1)
  have HR12 := Lib.hid (HR2.out.below hb1)
  clear hb1 HB0 HR1 HR2
  go_wp2_with fail
  refine (new_any 6 w1 (by omega) (by omega)).mono ?_
  rintro e w2 ⟨g, F2, rfl, hd2, hF2, hb2⟩
  have HD2 := Lib.hid hd2
  have HF2 : Hid (∀ k, F2 k → w.heap.size ≤ k) := Lib.hid (fun k hk => Nat.le_trans HB1.out.size (hF2 k hk))
  have HB2 := Lib.hid (HB1.out.trans (hb2.mono HB1.out.size))
  have HR21 := Lib.hid (HR11.out.below hb2)
  have HR22 := Lib.hid (HR12.out.below hb2)
  clear hd2 hF2 hb2 HB1 HR11 HR12
  go_upto_region 5 with fail
  have r10 := HR21.out.c0
  have r11 := HR21.out.c1
  have r12 := HR21.out.c2
  have r20 := HR22.out.c0
  have r21 := HR22.out.c1
  have r22 := HR22.out.c2
  have l1 := HR21.out.lt
  have l2 := HR22.out.lt
  go_wp2_with fail
  have hb3 := bal (bal (bre w2) (.cells #[.slice none 0 0, .slice none 0 0] 32)) (.cells #[.int .u32 a.gen, .int .u8 a.half, .int .u32 a.serial, .int .u32 b.gen, .int .u8 b.half, .int .u32 b.serial] 24)
  obtain ⟨hr1, hr2⟩ := box_two w2 (.cells #[.slice none 0 0, .slice none 0 0] 32) (.cells #[.int .u32 a.gen, .int .u8 a.half, .int .u32 a.serial, .int .u32 b.gen, .int .u8 b.half, .int .u32 b.serial] 24)
  have hF2 := HD2.out.lt
  generalize (w2.alloc (.cells #[.slice none 0 0, .slice none 0 0] 32)).alloc (.cells #[.int .u32 a.gen, .int .u8 a.half, .int .u32 a.serial, .int .u32 b.gen, .int .u8 b.half, .int .u32 b.serial] 24) = w3 at *
  obtain ⟨n15, hn15⟩ : ∃ n, n = w2.heap.size := ⟨_, rfl⟩
  rw [← hn15] at hr1 hr2 ⊢
  obtain ⟨n35, hn35⟩ : ∃ n, n = n15 + 1 := ⟨_, rfl⟩
  rw [← hn35] at hr2
  try rw [← hn35]
  have hne : ¬ n15 = n35 := by omega
  have HNE := Lib.hid hne
  have HN15 : Hid (w.heap.size ≤ n15) := Lib.hid (by have := HB2.out.size; omega)
  have HREL : Hid (ReadsRel w g n15 n35 a b 0 w3) := Lib.hid ⟨⟨F2, [], [], .slice none 0 0, .slice none 0 0, HD2.out.below hb3, HF2.out, fun h => by have := hF2 _ h; omega, fun h => by have := hF2 _ h; omega, hr1, ⟨⟨_, _, _, rfl⟩, ⟨_, _, _, rfl⟩⟩, fun h => absurd h (Nat.lt_irrefl 0), fun h => absurd h (by decide)⟩, hr2, HB2.out.trans (hb3.mono HB2.out.size)⟩
  clear hb3 hr1 hr2 hF2 hn15 hn35 hne r10 r11 r12 r20 r21 r22 l1 l2 HD2 HF2 HB2 HR21 HR22
  go_loopw [16, 17, 18, 19, 20, 37] (fun _ _ _ _ _ i wr => ∃ k : Nat, k ≤ 2 ∧ i = .int .i64 k ∧ ReadsRel w g n15 n35 a b k wr) (fun _ _ _ _ _ i _ => 2 - (intOf i).toNat)
  case atStart => exact ⟨0, by omega, rfl, HREL.out⟩
  case round =>
    obtain ⟨k, hk, rfl, hr⟩ := hrel
    obtain ⟨⟨F, q0, q1, u0, u1, hd, hF, hn15, hn35, hr15, ⟨hs0, hs1⟩, hq0, hq1⟩, hrow, hbl⟩ := hr
    have HD := Lib.hid hd
    have HF := Lib.hid hF
    have HN := Lib.hid hn15
    have HN3 := Lib.hid hn35
    have HR15 := Lib.hid hr15
    have HS0 := Lib.hid hs0
    have HS1 := Lib.hid hs1
    have HQ0 := Lib.hid hq0
    have HQ1 := Lib.hid hq1
    have HROW := Lib.hid hrow
    have HBL := Lib.hid hbl
    clear hd hF hn15 hn35 hr15 hs0 hs1 hq0 hq1 hrow hbl HREL
    by_cases hlt : k < 2
    · obtain ⟨c, oc, x0, x1, x2⟩ : ∃ c : Cr, c.Ok ∧ wr.cell? ⟨n35, k * 3, none⟩ = some (.int .u32 c.gen) ∧ wr.cell? ⟨n35, k * 3 + 1, none⟩ = some (.int .u8 c.half) ∧ wr.cell? ⟨n35, k * 3 + 2, none⟩ = some (.int .u32 c.serial) := by
        rcases (by omega : k = 0 ∨ k = 1) with rfl | rfl
        · exact ⟨a, OA.out, cell_of_row wr n35 0 _ _ _ HROW.out, cell_of_row wr n35 1 _ _ _ HROW.out, cell_of_row wr n35 2 _ _ _ HROW.out⟩
        · exact ⟨b, OB.out, cell_of_row wr n35 3 _ _ _ HROW.out, cell_of_row wr n35 4 _ _ _ HROW.out, cell_of_row wr n35 5 _ _ _ HROW.out⟩
      have OC := Lib.hid oc
      clear oc
      go_upto_region 8 with fail
      have hb4 := bal (bre wr) (.cells #[.int .u32 c.gen, .int .u8 c.half, .int .u32 c.serial] 24)
      have hr17 : Row3 _ wr.heap.size c := heap_alloc_new wr (.cells #[.int .u32 c.gen, .int .u8 c.half, .int .u32 c.serial] 24)
      generalize wr.alloc (.cells #[.int .u32 c.gen, .int .u8 c.half, .int .u32 c.serial] 24) = w4 at *
      obtain ⟨n17, hn17⟩ : ∃ n, n = wr.heap.size := ⟨_, rfl⟩
      rw [← hn17] at hr17 ⊢
      have HB4 := Lib.hid hb4
      have HR17 := Lib.hid hr17
      clear hb4 hr17 hn17 x0 x1 x2
      have y0 := HR17.out.c0
      have y1 := HR17.out.c1
      have y2 := HR17.out.c2
      go_wp2_with fail
      rw [← crv]
      refine (refbytes_any c OC.out w4).mono ?_
      rintro e w5 ⟨v5, rfl, ho5, hb5⟩
      have hl5 : (seal8 c.page.raw).length = 512 := by rw [seal_length, raw_length _ (by show 1 ≤ 491; decide)]
      obtain ⟨q, hq⟩ : ∃ q, q = seal8 c.page.raw := ⟨_, rfl⟩
      rw [← hq] at ho5 hl5
      obtain ⟨g5, c5, rfl, -, -, -⟩ := ho5.shape (by intro h; rw [h] at hl5; cases hl5)
      rw [hl5] at ho5 ⊢
      have HO5 := Lib.hid ho5
      have HB5 := Lib.hid hb5
      have HL5 := Lib.hid hl5
      have HR175 := Lib.hid (HR17.out.below hb5)
      clear ho5 hb5 y0 y1 y2 HR17 hl5 hq
      obtain ⟨sw, hsw⟩ := switch8 how k
      go_upto_block 2 with fail
      clear hsw
      go_cut [18, 19, 20] from 49 to 100 (fun t _ _ w' => ∃ q', Own8 5 w4.heap.size w' t q' ∧ q'.length = 512 ∧ Below w4.heap.size w4 w')
      case first =>
        by_cases h0 : sw = 0
        · subst h0
          go_wp2_with (refine wpList_make8 rfl _ _ 25 5 make8 rfl 512 rfl rfl (by omega) (fun w6 hmk hbw => ?_))
          go_meet
          case rel => exact ⟨_, Own8.kept hmk HB5.out.size (bre w6), List.length_replicate, btr HB5.out hbw⟩
        by_cases h1 : sw = 1
        · subst h1
          clear h0
          go_wp2_with fail
          refine (full_any _ raw w5 (HR.out.below (HBL.out.trans ((btr HB4.out HB5.out).mono HBL.out.size)))).mono ?_
          rintro e w6 ⟨v6, rfl, ho6, hb6⟩
          have HO6 := Lib.hid ho6
          have HB6 := Lib.hid hb6
          clear ho6 hb6
          go_wp2_with fail
          go_meet
          case rel => exact ⟨_, Own8.kept HO6.out HB5.out.size (bre w6), fullOf_length raw, btr HB5.out HB6.out⟩
        by_cases h2 : sw = 2
        · subst h2
          clear h0 h1
          obtain ⟨s, hs⟩ : ∃ s, s = at' % 4096 := ⟨_, rfl⟩
          have hsi : (at' : Int) % 4096 = (s : Int) := by omega
          have hs4 : s < 4096 := by omega
          clear hs
          go_wp2_with fail
          go_loopw [19, 20, 58] (fun _ _ i wr => ∃ j : Nat, j ≤ 32 ∧ i = .int .i64 j ∧ TurnRel w4 s mask g5 c5 q j wr) (fun _ _ i _ => 32 - (intOf i).toNat)
          case atStart => exact ⟨0, by omega, rfl, HO5.out, HB5.out⟩
          case round =>
            obtain ⟨j, hj, rfl, hr⟩ := hrel
            rename World => wz
            by_cases hlt32 : j < 32
            · obtain ⟨b', hbe⟩ : ∃ b, b = s + j := ⟨_, rfl⟩
              have hbi : (s : Int) + j = (b' : Int) := by omega
              have hlq : (turns8 s mask j q).length = 512 := by rw [length_turns8]; exact HL5.out
              by_cases hbit : b' < 4096
              · by_cases hone : mask / 2 ^ j % 2 = 1
                · have hm1 : (((mask : Int) / 2 ^ j).tmod 2 == 1) = true := (mask_bit mask j).trans (by simp [hone])
                  obtain ⟨hcell, hfr⟩ := hr.own.cell (b' / 8) (by omega)
                  have hnext : turns8 s mask (j + 1) q = turn8 (turns8 s mask j q) b' := by
                    simp only [turns8]; rw [← hbe, if_pos ⟨by rw [HL5.out]; omega, hone⟩]
                  have hput : turn8 (turns8 s mask j q) b' = (turns8 s mask j q).set (b' / 8) ((turns8 s mask j q)[b' / 8]'(by omega) ^^^ UInt8.ofNat (2 ^ (b' % 8))) := by
                    unfold turn8
                    rw [List.getD_eq_getElem?_getD, List.getElem?_eq_getElem (by omega)]
                    rfl
                  have hst := hr.own.store (b' / 8) ((turns8 s mask j q)[b' / 8]'(by omega) ^^^ UInt8.ofNat (2 ^ (b' % 8)))
                  rw [← hput, ← hnext, turn8_byte _ _ (by omega)] at hst
                  have HST := Lib.hid hst
                  unfold B8 at hcell
                  have hx := ((turns8 s mask j q)[b' / 8]'(by omega)).toNat_lt
                  generalize ((turns8 s mask j q)[b' / 8]'(by omega)).toNat = x at *
                  have hb8 : (b' : Int) / 8 < 512 := by omega
                  have hbel := Lib.hid hr.below
                  have hd : decide ((b' : Int) < 4096) = true := decide_eq_true (by omega)
                  have HS4 := Lib.hid hs4
                  have HBIT := Lib.hid hbit
                  clear hst hput hone hnext hlq hbe hr hs4 hbit
                  go_wp2_with fail
                  go_region
                  go_wp2
                  go_roundw
                  case rel =>
                    refine ⟨j + 1, by omega, by go_num, ?_, ?_⟩
                    · rw [xor_byte x (b' % 8) hx (by omega)]
                      exact World.ownsRow.drew HST.out.1
                    · rw [xor_byte x (b' % 8) hx (by omega)]
                      exact (hbel.out.trans HST.out.2).drew
                  case measure => simp [intOf]; try omega
                · have hm1 : (((mask : Int) / 2 ^ j).tmod 2 == 1) = false := (mask_bit mask j).trans (by simp [hone])
                  have hnext : turns8 s mask (j + 1) q = turns8 s mask j q := by
                    simp only [turns8]; rw [if_neg (fun h => hone h.2)]
                  have hr1 : TurnRel w4 s mask g5 c5 q (j + 1) wz := ⟨by rw [hnext]; exact hr.own, hr.below⟩
                  have HR1 := Lib.hid hr1
                  have hd : decide ((b' : Int) < 4096) = true := decide_eq_true (by omega)
                  clear hone hnext hlq hbe hr hr1 hs4 hbit
                  go_wp2
                  go_roundw
                  case rel => exact ⟨j + 1, by omega, by go_num, HR1.out⟩
                  case measure => simp [intOf]; try omega
              · have hd : decide ((b' : Int) < 4096) = false := by simp; omega
                have hnext : turns8 s mask (j + 1) q = turns8 s mask j q := by
                  simp only [turns8]; rw [if_neg (fun h => hbit (by have := h.1; rw [HL5.out] at this; omega))]
                have hr1 : TurnRel w4 s mask g5 c5 q (j + 1) wz := ⟨by rw [hnext]; exact hr.own, hr.below⟩
                have HR1 := Lib.hid hr1
                clear hnext hlq hbe hr hr1 hs4 hbit
                go_wp2
                go_roundw
                case rel => exact ⟨j + 1, by omega, by go_num, HR1.out⟩
                case measure => simp [intOf]; try omega
            · have e32 : j = 32 := by omega
              subst e32
              have HO32 := Lib.hid hr.own
              have HB32 := Lib.hid hr.below
              clear hr hlt32 hj hsi
              go_wp2_with fail
              go_meet
              case rel => exact ⟨_, HO32.out, by rw [length_turns8]; exact HL5.out, HB32.out⟩
        by_cases h3 : sw = 3
        · subst h3
          clear h0 h1 h2
          obtain ⟨md, hmd⟩ : ∃ m, m = min lr 2 := ⟨_, rfl⟩
          have hm1 : min (lr : Int) 2 = (md : Int) := by omega
          have hm2 : (md : Int) ≤ lr := by omega
          have hm3 : md ≤ 2 := by omega
          obtain ⟨ar', cr', e', -, hm4, -⟩ := id HR.out
          cases e'
          have hm5 : (md : Int) ≤ cr := by omega
          obtain ⟨k1, k2, k3⟩ := kinds9 c.half OC.out.half
          obtain ⟨kd, hkd⟩ : ∃ x, x = 1 + c.half % 9 := ⟨_, rfl⟩
          rw [← hkd] at k1 k2
          have hraw := (HR.out.below (HBL.out.trans ((btr HB4.out HB5.out).mono HBL.out.size)))
          have hpg : PgAt (w5.drew) (.agg #[.int .u32 c.gen, .int .u32 0, .int .u32 0, .int .u8 kd, .slice ar md cr]) ⟨c.gen, 0, 0, kd, raw.take md⟩ := by
            have hf : Bytes w5 (.slice ar md cr) (raw.take md) := hraw.firsts md (by omega)
            exact ⟨_, rfl, hf.below (bdr (bre w5))⟩
          have HPG := Lib.hid hpg
          have HKD : Hid (kd < 256) := Lib.hid (by omega)
          have HM3 := Lib.hid hm3
          have HSB : Hid (∀ w', Below w5.heap.size w5 w' → (w'.cell? ⟨n17, 0, none⟩ = some (.int .u32 c.gen) ∧ w'.cell? ⟨n17, 1, none⟩ = some (.int .u8 c.half))) := Lib.hid (fun w' hb => ⟨(HR175.out.below hb).c0, (HR175.out.below hb).c1⟩)
          clear hmd hraw hpg hm3 hkd
          go_upto_region 23 with fail
          refine region_anyZ (z := 12) (S := fun w' => (w'.cell? ⟨n17, 0, none⟩ = some (.int .u32 c.gen) ∧ w'.cell? ⟨n17, 1, none⟩ = some (.int .u8 c.half))) (by kernel_rfl) ?_
          refine anyZ_begin (fun hcl0 => ?_)
          refine anyZ_held (by exact HSB.out _ (bdr (bre w5))) (fun hHeld => ?_)
          -- 0: Op.fieldAddr 24 (Operand.tmp 17) 0
          refine' anyZ_pure (i := 0) (v := _) rfl (by rfl) (by kernel_rfl) (by kernel_rfl) (by kernel_rfl) hcl0 (fun _ _ _ h => h) (Or.inl ⟨by rfl, fun w _ => ?hz1⟩) (fun _ => hHeld) (fun hcl1 => ?rz1)
          case hz1 => (simp only [List.getElem_toArray, List.getElem_cons_zero]; first | (go_simp; with_reducible rfl) | (go_simp; done) | rfl)
          simp only [List.getElem_toArray, List.getElem_cons_zero, Act.put, List.setIfInBounds_toArray, List.set_cons_zero, List.set_cons_succ]
          -- 1: Op.load 22 (Operand.tmp 88)
          refine' anyZ_take (i := 1) (v := _) rfl (by rfl) (by kernel_rfl) (by kernel_rfl) (by kernel_rfl) hcl1 6 (by kernel_rfl) (by kernel_rfl) (fun _ _ _ h => h) (Or.inl ⟨by rfl, fun w hSw => ?hz2⟩) hHeld (fun hcl2 => ?rz2)
          case hz2 => (simp only [List.getElem_toArray, List.getElem_cons_succ, List.getElem_cons_zero]; obtain ⟨hS1, hS2⟩ := hSw; first | (go_simp; with_reducible rfl) | (go_simp; done) | rfl)
          simp only [List.getElem_toArray, List.getElem_cons_succ, List.getElem_cons_zero, Act.put, List.setIfInBounds_toArray, List.set_cons_zero, List.set_cons_succ]
          -- 2: Op.fieldAddr 24 (Operand.tmp 17) 1
          refine' anyZ_pure (i := 2) (v := _) rfl (by rfl) (by kernel_rfl) (by kernel_rfl) (by kernel_rfl) hcl2 (fun _ _ _ h => h) (Or.inl ⟨by rfl, fun w _ => ?hz3⟩) (fun _ => hHeld) (fun hcl3 => ?rz3)
          case hz3 => (simp only [List.getElem_toArray, List.getElem_cons_succ, List.getElem_cons_zero]; first | (go_simp; with_reducible rfl) | (go_simp; done) | rfl)
          simp only [List.getElem_toArray, List.getElem_cons_succ, List.getElem_cons_zero, Act.put, List.setIfInBounds_toArray, List.set_cons_zero, List.set_cons_succ]
          -- 3: Op.load 5 (Operand.tmp 90)
          refine' anyZ_take (i := 3) (v := _) rfl (by rfl) (by kernel_rfl) (by kernel_rfl) (by kernel_rfl) hcl3 6 (by kernel_rfl) (by kernel_rfl) (fun _ _ _ h => h) (Or.inl ⟨by rfl, fun w hSw => ?hz4⟩) hHeld (fun hcl4 => ?rz4)
          case hz4 => (simp only [List.getElem_toArray, List.getElem_cons_succ, List.getElem_cons_zero]; obtain ⟨hS1, hS2⟩ := hSw; first | (go_simp; with_reducible rfl) | (go_simp; done) | rfl)
          simp only [List.getElem_toArray, List.getElem_cons_succ, List.getElem_cons_zero, Act.put, List.setIfInBounds_toArray, List.set_cons_zero, List.set_cons_succ]
          -- 4: Op.binOp BinOp.rem 5 (Operand.tmp 91) (Operand.const (Value.
          refine' anyZ_pure (i := 4) (v := _) rfl (by rfl) (by kernel_rfl) (by kernel_rfl) (by kernel_rfl) hcl4 (fun _ _ _ h => h) (Or.inl ⟨by rfl, fun w _ => ?hz5⟩) (fun _ => hHeld) (fun hcl5 => ?rz5)
          case hz5 => (simp only [List.getElem_toArray, List.getElem_cons_succ, List.getElem_cons_zero]; first | (go_simp; with_reducible rfl) | (go_simp; done) | rfl)
          simp only [List.getElem_toArray, List.getElem_cons_succ, List.getElem_cons_zero, Act.put, List.setIfInBounds_toArray, List.set_cons_zero, List.set_cons_succ]
          -- 5: Op.binOp BinOp.add 5 (Operand.const (Value.int IntKind.u8 1)
          refine' anyZ_pure (i := 5) (v := _) rfl (by rfl) (by kernel_rfl) (by kernel_rfl) (by kernel_rfl) hcl5 (fun _ _ _ h => h) (Or.inl ⟨by rfl, fun w _ => ?hz6⟩) (fun _ => hHeld) (fun hcl6 => ?rz6)
          case hz6 => (simp only [List.getElem_toArray, List.getElem_cons_succ, List.getElem_cons_zero]; first | (go_simp; with_reducible rfl) | (go_simp; done) | rfl)
          simp only [List.getElem_toArray, List.getElem_cons_succ, List.getElem_cons_zero, Act.put, List.setIfInBounds_toArray, List.set_cons_zero, List.set_cons_succ]
          -- 6: Op.move (Operand.tmp 2)
          refine' anyZ_pure (i := 6) (v := _) rfl (by rfl) (by kernel_rfl) (by kernel_rfl) (by kernel_rfl) hcl6 (fun _ _ _ h => h) (Or.inl ⟨by rfl, fun w _ => ?hz7⟩) (fun _ => hHeld) (fun hcl7 => ?rz7)
          case hz7 => (simp only [List.getElem_toArray, List.getElem_cons_succ, List.getElem_cons_zero]; first | (go_simp; with_reducible rfl) | (go_simp; done) | rfl)
          simp only [List.getElem_toArray, List.getElem_cons_succ, List.getElem_cons_zero, Act.put, List.setIfInBounds_toArray, List.set_cons_zero, List.set_cons_succ]
          -- 7: Op.move (Operand.tmp 2)
          refine' anyZ_pure (i := 7) (v := _) rfl (by rfl) (by kernel_rfl) (by kernel_rfl) (by kernel_rfl) hcl7 (fun _ _ _ h => h) (Or.inl ⟨by rfl, fun w _ => ?hz8⟩) (fun _ => hHeld) (fun hcl8 => ?rz8)
          case hz8 => (simp only [List.getElem_toArray, List.getElem_cons_succ, List.getElem_cons_zero]; first | (go_simp; with_reducible rfl) | (go_simp; done) | rfl)
          simp only [List.getElem_toArray, List.getElem_cons_succ, List.getElem_cons_zero, Act.put, List.setIfInBounds_toArray, List.set_cons_zero, List.set_cons_succ]
          -- 8: Op.call { callee := Callee.builtin Builtin.len, args := #[Op
          refine' anyZ_pure (i := 8) (v := _) rfl (by rfl) (by kernel_rfl) (by kernel_rfl) (by kernel_rfl) hcl8 (fun _ _ _ h => h) (Or.inl ⟨by rfl, fun w _ => ?hz9⟩) (fun _ => hHeld) (fun hcl9 => ?rz9)
          case hz9 => (simp only [List.getElem_toArray, List.getElem_cons_succ, List.getElem_cons_zero]; first | (go_simp; with_reducible rfl) | (go_simp; done) | rfl)
          simp only [List.getElem_toArray, List.getElem_cons_succ, List.getElem_cons_zero, Act.put, List.setIfInBounds_toArray, List.set_cons_zero, List.set_cons_succ]
          -- 9: Op.call { callee := Callee.builtin Builtin.min, args := #[Op
          refine' anyZ_pure (i := 9) (v := _) rfl (by rfl) (by kernel_rfl) (by kernel_rfl) (by kernel_rfl) hcl9 (fun _ _ _ h => h) (Or.inl ⟨by rfl, fun w _ => ?hz10⟩) (fun _ => hHeld) (fun hcl10 => ?rz10)
          case hz10 => (simp only [List.getElem_toArray, List.getElem_cons_succ, List.getElem_cons_zero]; first | (go_simp; with_reducible rfl) | (go_simp; done) | rfl)
          simp only [List.getElem_toArray, List.getElem_cons_succ, List.getElem_cons_zero, Act.put, List.setIfInBounds_toArray, List.set_cons_zero, List.set_cons_succ]
          -- 10: Op.slice 25 (Operand.tmp 94) none (some (Operand.tmp 97)) no
          refine' anyZ_pure (i := 10) (v := _) rfl (by rfl) (by kernel_rfl) (by kernel_rfl) (by kernel_rfl) hcl10 (fun _ _ _ h => h) (Or.inl ⟨by rfl, fun w _ => ?hz11⟩) (fun _ => hHeld) (fun hcl11 => ?rz11)
          case hz11 => (simp only [List.getElem_toArray, List.getElem_cons_succ, List.getElem_cons_zero]; first | (go_simp; with_reducible rfl) | (go_simp; done) | rfl)
          simp only [List.getElem_toArray, List.getElem_cons_succ, List.getElem_cons_zero, Act.put, List.setIfInBounds_toArray, List.set_cons_zero, List.set_cons_succ]
          -- 11: Op.build 39 #[(0, Operand.tmp 89), (3, Operand.tmp 93), (4, 
          refine' anyZ_pure (i := 11) (v := _) rfl (by rfl) (by kernel_rfl) (by kernel_rfl) (by kernel_rfl) hcl11 (fun _ _ _ h => h) (Or.inl ⟨by rfl, fun w _ => ?hz12⟩) (fun _ => hHeld) (fun hcl12 => ?rz12)
          case hz12 => (simp only [List.getElem_toArray, List.getElem_cons_succ, List.getElem_cons_zero]; first | (go_simp; with_reducible rfl) | (go_simp; done) | rfl)
          simp only [List.getElem_toArray, List.getElem_cons_succ, List.getElem_cons_zero, Act.put, List.setIfInBounds_toArray, List.set_cons_zero, List.set_cons_succ]
          clear hHeld
          refine anyZ_chain_at (by kernel_rfl) ?_
          simp only [List.drop_succ_cons, List.drop_zero]
          go_wp2_with fail
          refine (rpbytes_any _ _ w5.drew HPG.out ⟨OC.out.gen, (by decide : (0 : Nat) < 4294967296), (by decide : (0 : Nat) < 4294967296), HKD.out⟩ (by show (raw.take md).length ≤ 491; rw [List.length_take]; have := HM3.out; omega)).mono ?_
          rintro e w6 ⟨v6, rfl, ho6, hb6⟩
          have HO6 := Lib.hid ho6
          have HB6 := Lib.hid (btr (bdr (bre w5)) hb6)
          clear ho6 hb6
          go_wp2_with fail
          go_meet
          case rel => exact ⟨_, Own8.kept HO6.out HB5.out.size (bre w6), by rw [seal_length, raw_length _ (by show (raw.take md).length ≤ 491; rw [List.length_take]; have := HM3.out; omega)], btr HB5.out HB6.out⟩
        · have k0 : ((sw : Int) == 0) = false := beq_false_of_ne (by omega)
          have k1 : ((sw : Int) == 1) = false := beq_false_of_ne (by omega)
          have k2 : ((sw : Int) == 2) = false := beq_false_of_ne (by omega)
          have k3 : ((sw : Int) == 3) = false := beq_false_of_ne (by omega)
          have k4 : decide ((sw : Int) = 0) = false := decide_eq_false (by omega)
          have k5 : decide ((sw : Int) = 1) = false := decide_eq_false (by omega)
          have k6 : decide ((sw : Int) = 2) = false := decide_eq_false (by omega)
          have k7 : decide ((sw : Int) = 3) = false := decide_eq_false (by omega)
          clear h0 h1 h2 h3
          go_wp2_with fail
          go_meet
          case rel => exact ⟨_, HO5.out, HL5.out, HB5.out⟩
      case rest =>
      obtain ⟨q', ho6, hl6, hb6⟩ := hcut
      rename World => w6
      have hb06 := btr HB4.out hb6
      obtain ⟨a6, m6, c6, rfl⟩ := ho6.isSlice
      have HO6 := Lib.hid ho6
      have HL6 := Lib.hid hl6
      have HB6 := Lib.hid hb06
      clear ho6 hl6 hb6 hb06 HO5 HB5 HR175 HL5
      have HR16 : Hid (w6.heap[n15]? = some (.cells #[u0, u1] 32 (0, 0))) := Lib.hid ((HB6.out.block n15 (Array.getElem?_eq_some_iff.1 HR15.out).1).trans HR15.out)
      obtain ⟨uk, huk⟩ : ∃ u, w6.cell? ⟨n15, k, none⟩ = some u := by
        rcases (by omega : k = 0 ∨ k = 1) with rfl | rfl
        · exact ⟨u0, cell_of_row w6 n15 0 _ _ _ HR16.out⟩
        · exact ⟨u1, cell_of_row w6 n15 1 _ _ _ HR16.out⟩
      have hfz := fun i => frozen_of_row w6 n15 i _ _ HR16.out
      go_upto_region 25 with fail
      have hst : Only w6 (w6.setCell ⟨n15, k, none⟩ (.slice a6 m6 c6)) (fun q => q = n15) := Only.setCell _ ⟨n15, k, none⟩ _
      have hrow7 : (w6.setCell ⟨n15, k, none⟩ (.slice a6 m6 c6)).heap[n15]? = some (.cells #[if k = 0 then .slice a6 m6 c6 else u0, if k = 0 then u1 else .slice a6 m6 c6] 32 (0, 0)) := by
        rcases (by omega : k = 0 ∨ k = 1) with rfl | rfl
        · exact heap_setCell_same w6 n15 0 _ _ _ HR16.out
        · exact heap_setCell_same w6 n15 1 _ _ _ HR16.out
      have hbel7 := (HBL.out.trans (HB6.out.mono HBL.out.size)).setCell HN15.out (p := ⟨n15, k, none⟩) (.slice a6 m6 c6)
      have hown7 := own_only HO6.out hst (fun k' hk' e => by
        have h1 := (World.ownsRow.lt HO6.out k' hk').1
        have h2 := (Array.getElem?_eq_some_iff.1 HR15.out).1
        have h3 := HB4.out.size
        omega)
      have hdisk7 := (HD.out.below HB6.out).only hst (fun j hj e => HN.out (e ▸ hj))
      have hn35lt := (Array.getElem?_eq_some_iff.1 HROW.out).1
      have hrow35 := (hst.block n35 (Nat.lt_of_lt_of_le hn35lt HB6.out.size) (fun e => HNE.out e.symm)).trans ((HB6.out.block n35 hn35lt).trans HROW.out)
      have hold7 : 0 < k → q0.length = 512 ∧ Bytes (w6.setCell ⟨n15, k, none⟩ (.slice a6 m6 c6)) u0 q0 ∧ Away u0 F := fun h => by
        obtain ⟨e1, e2, e3⟩ := HQ0.out h
        have hne : q0 ≠ [] := by intro e; rw [e] at e1; cases e1
        have hy := e2.below HB6.out
        exact ⟨e1, hy.only hst (fun g' o' n' c' _ e => apart_cells HR16.out HS0.out HS1.out hy hne g' o' n' c' e), e3⟩
      have hFlt : ∀ j, F j → j < w4.heap.size := fun j hj => Nat.lt_of_lt_of_le (HD.out.lt j hj) HB4.out.size
      have haw := away_own HO6.out hFlt
      have hn15lt : n15 < w6.heap.size := (Array.getElem?_eq_some_iff.1 HR16.out).1
      have hsz : w6.heap.size ≤ (w6.setCell ⟨n15, k, none⟩ (.slice a6 m6 c6)).heap.size := hst.size
      have hn35lt6 : n35 < w6.heap.size := Nat.lt_of_lt_of_le hn35lt HB6.out.size
      generalize w6.setCell ⟨n15, k, none⟩ (.slice a6 m6 c6) = w7 at *
      have HRW := Lib.hid hrow7
      have HBL7 := Lib.hid hbel7
      have HOW := Lib.hid (Own8.bytes hown7)
      have HDI := Lib.hid hdisk7
      have HR35 := Lib.hid hrow35
      have HOLD := Lib.hid hold7
      have HAW := Lib.hid haw
      have HLT15 : Hid (n15 < w7.heap.size) := Lib.hid (by omega)
      have HLT35 : Hid (n35 < w7.heap.size) := Lib.hid (by omega)
      clear hst hrow7 hbel7 hown7 hdisk7 hrow35 hold7 hFlt haw hn15lt hn35lt hn35lt6 hsz huk hfz HR16 HB6 HO6 HB4 HR15 HROW HBL HD HQ0
      obtain ⟨f1, f2, f3, f4, f5⟩ := dR_facts q0 q1 k hk
      have G1 := Lib.hid f1
      have G2 := Lib.hid f2
      have G3 := Lib.hid f3
      have G4 := Lib.hid f4
      have G5 := Lib.hid f5
      clear f1 f2 f3 f4 f5
      go_wp2_with fail
      refine (write_ok g (dR q0 q1 k) F k (.slice a6 m6 c6) q' w7 HDI.out (by rw [G1.out]; omega) (by unfold Dk.may; rw [G2.out]; rfl) HOW.out HL6.out (by rw [G3.out]; decide) (by rw [G3.out]; decide) (by have := G4.out; omega) (by have := G5.out; omega)).mono ?_
      rintro e w8 ⟨F8, rfl, hd8, hm8⟩
      rw [dR_step q0 q1 q' k hlt] at hd8
      have hne' : q' ≠ [] := by intro e; have := HL6.out; rw [e] at this; cases this
      obtain ⟨hy8, ha8⟩ := moved_bytes hm8 HOW.out hne' HAW.out
      have hnot : ∀ n, n < w7.heap.size → ¬ F n → ¬ F8 n := fun n hn h hF => by
        rcases hm8.fresh n hF with h' | h'
        · exact h h'
        · omega
      have hrw8 := (hm8.only.block n15 HLT15.out HN.out).trans HRW.out
      have hr358 := (hm8.only.block n35 HLT35.out HN3.out).trans HR35.out
      have hnew : ReadsRel w g n15 n35 a b (k + 1) w8 := by
        refine ⟨⟨F8, _, _, _, _, hd8, hm8.ge HBL7.out.size HF.out, hnot n15 HLT15.out HN.out, hnot n35 HLT35.out HN3.out, hrw8, ?_, ?_, ?_⟩, hr358, HBL7.out.trans (hm8.below HBL7.out.size HF.out)⟩
        · by_cases h : k = 0
          · rw [if_pos h, if_pos h]; exact ⟨⟨_, _, _, rfl⟩, HS1.out⟩
          · rw [if_neg h, if_neg h]; exact ⟨HS0.out, ⟨_, _, _, rfl⟩⟩
        · intro _
          by_cases h : k = 0
          · rw [if_pos h, if_pos h]; exact ⟨HL6.out, hy8, ha8⟩
          · rw [if_neg h, if_neg h]
            obtain ⟨e1, e2, e3⟩ := HOLD.out (by omega)
            have hne0 : q0 ≠ [] := by intro e; rw [e] at e1; cases e1
            exact ⟨e1, moved_bytes hm8 e2 hne0 e3⟩
        · intro h1
          have h : ¬ k = 0 := by omega
          rw [if_neg h, if_neg h]
          exact ⟨HL6.out, hy8, ha8⟩
      have HNEW := Lib.hid hnew
      clear hnew hd8 hm8 hne' hy8 ha8 hnot hrw8 hr358
      go_wp2_with fail
      go_roundw
      case rel => exact ⟨k + 1, by omega, by go_num, HNEW.out⟩
      case measure => simp [intOf]; try omega
    · have e2 : k = 2 := by omega
      subst e2
      obtain ⟨l0, y0, -⟩ := HQ0.out (by decide)
      obtain ⟨l1, y1, -⟩ := HQ1.out (by decide)
      obtain ⟨f1, -, -, -, f5⟩ := dR_facts q0 q1 2 (by decide)
      obtain ⟨f, hf⟩ : ∃ f : Nat → List UInt8, f = fun j => if j = 0 then q0 else q1 := ⟨_, rfl⟩
      have hrd : readOf (dR q0 q1 2).now = readOf f := by rw [hf]; exact dR_read q0 q1
      have hy0 : Bytes wr u0 (f 0) := by rw [hf]; exact y0
      have hy1 : Bytes wr u1 (f 1) := by rw [hf]; exact y1
      have HRD := Lib.hid hrd
      have HY0 := Lib.hid hy0
      have HY1 := Lib.hid hy1
      have G1 := Lib.hid f1
      have G5 := Lib.hid f5
      clear l0 y0 l1 y1 f1 f5 hf hrd hy0 hy1 hlt hk HQ0 HQ1 HROW
      go_wp2_with fail
      refine (cread_ok g (dR q0 q1 2) F wr HD.out (by rw [G1.out]; decide) (by have := G5.out; omega)).mono ?_
      rintro e w4 ⟨rfl, hb4⟩
      rw [HRD.out]
      obtain ⟨x, hx⟩ : ∃ x, x = readOf f := ⟨_, rfl⟩
      have href := fun w' hb => refread_any u0 u1 f w' (HY0.out.below (hb : Below wr.heap.size wr w')) (HY1.out.below hb)
      rw [← hx] at href ⊢
      have HREF := Lib.hid href
      have HB4 := Lib.hid hb4
      have HR15' := HR15.out
      clear hb4 href hx HRD HY0 HY1 HD
      obtain ⟨cx, sx, ex⟩ := x
      rw [crv cx]
      go_upto_region 28 with fail
      have hb5 := bal (bre w4) (.cells #[.int .u32 cx.gen, .int .u8 cx.half, .int .u32 cx.serial] 24)
      have hr21 : Row3 _ w4.heap.size cx := heap_alloc_new w4 (.cells #[.int .u32 cx.gen, .int .u8 cx.half, .int .u32 cx.serial] 24)
      generalize w4.alloc (.cells #[.int .u32 cx.gen, .int .u8 cx.half, .int .u32 cx.serial] 24) = w5 at *
      obtain ⟨n21, hn21⟩ : ∃ n, n = w4.heap.size := ⟨_, rfl⟩
      rw [← hn21] at hr21 ⊢
      have hb05 := btr HB4.out hb5
      have hr15 := (hb05.block n15 (Array.getElem?_eq_some_iff.1 HR15.out).1).trans HR15.out
      have HB5 := Lib.hid hb05
      have HR21 := Lib.hid hr21
      have z0 := cell_of_row w5 n15 0 _ _ _ hr15
      have z1 := cell_of_row w5 n15 1 _ _ _ hr15
      clear hb5 hr21 hn21 hb05 hr15 HR15' HB4
      go_wp2_with fail
      refine (HREF.out w5 HB5.out).mono ?_
      rintro e w6 ⟨rfl, hb6⟩
      rw [crv cx]
      have HB6 := Lib.hid (HBL.out.trans ((btr HB5.out hb6).mono HBL.out.size))
      have HR216 := Lib.hid (HR21.out.below hb6)
      clear hb6 HB5 HR21 z0 z1 HREF
      go_upto_region 29 with fail
      have hb7 := bal (bre w6) (.cells #[.int .u32 cx.gen, .int .u8 cx.half, .int .u32 cx.serial] 35)
      have hr24 : RowR _ w6.heap.size cx := heap_alloc_new w6 (.cells #[.int .u32 cx.gen, .int .u8 cx.half, .int .u32 cx.serial] 35)
      generalize w6.alloc (.cells #[.int .u32 cx.gen, .int .u8 cx.half, .int .u32 cx.serial] 35) = w7 at *
      have hr217 := HR216.out.below hb7
      have HB7 := Lib.hid (HB6.out.trans (hb7.mono HB6.out.size))
      have x0 := hr217.c0
      have x1 := hr217.c1
      have x2 := hr217.c2
      have y0 := hr24.c0
      have y1 := hr24.c1
      have y2 := hr24.c2
      clear hb7 hr24 hr217
      go_wp2_with fail
      go_ret
      exact ⟨rfl, HB7.out⟩
end Go.Proofs.YtejdlgfiiagcmaaDoor
