/- TapeLays: fields are laid as the document says, and are read again, one by one, to the end. -/
import Derived.Test.YtddhnenlfdpomaaLays0
import Derived.Test.YtddhnenlfdpomaaJoin
namespace Go.Proofs.Ytddhnenlfdpomaa
open Go.RowKit

def laid (l : List Fld) : List UInt8 := l.flatMap layOf
theorem laid_snoc (l : List Fld) (k : Nat) (h : k < l.length) : laid (l.take (k + 1)) = laid (l.take k) ++ layOf l[k] := by
  unfold laid; rw [List.take_succ_eq_append_getElem h, List.flatMap_append]; simp
theorem laid_drop (l : List Fld) (k : Nat) (h : k < l.length) : laid (l.drop k) = layOf l[k] ++ laid (l.drop (k + 1)) := by
  unfold laid; rw [List.drop_eq_getElem_cons h, List.flatMap_cons]

theorem slot_lt {base : Nat} {w : World} {g : Nat} {m : List UInt8} (h : WriterAt base w g m) {j : Nat} (hj : slotBlock w g = some j) : base ≤ j ∧ j < w.heap.size := by
  obtain ⟨v, hg, ho⟩ := h
  rw [slotBlock_at hg] at hj
  exact ⟨own8_block_ge ho hj, World.ownsRow.lt ho j hj |>.2⟩

theorem slot_below {base : Nat} {w w' : World} {g : Nat} {m : List UInt8} (h : WriterAt base w g m) (hb : Below w.heap.size w w') : slotBlock w' g = slotBlock w g := by
  obtain ⟨v, hg, ho⟩ := h
  rw [slotBlock_at hg, slotBlock_at ((hb.block g (Array.getElem?_eq_some_iff.1 hg).1).trans hg)]

theorem own_lt {e : TypeId} {base : Nat} {w : World} {v : Value} {l : List UInt8} (h : Own8 e base w v l) {k : Nat} (hk : v.ownBlock = some k) : base ≤ k ∧ k < w.heap.size := World.ownsRow.lt h k hk

set_option maxRecDepth 10000 in
set_option maxHeartbeats 3200000 in
theorem lays_calls (v0 : Value) (l : List Fld) (w : World) (hl : Flds w v0 l) :
    Calls Try.prog 6 #[v0] w fun e w' => e = .returned (.bool true) ∧ Below w.heap.size w w' := by
  go_enter Try.func6, Try.ntmps6
  go_wp2_with fail
  refine (awake_any w).mono ?_
  rintro e w1 ⟨rfl, hb1⟩
  go_wp2_with fail
  refine (few_any v0 l w1 (Recs.mono (by omega) hl hb1 fun _ _ _ h => h)).mono ?_
  rintro e w3 ⟨v3, rfl, ho3, hb3⟩
  have hF := fields_of_own ho3
  have hsm : ∀ f ∈ fewOf l, f.s.size ≤ 40 ∧ (f.kind % 5 = 2 → f.most < 1000) := fun f => few_small
  have hl12 : (fewOf l).length ≤ 12 := by unfold fewOf; simp; omega
  have hb123 := btr hb1 hb3
  generalize fewOf l = L at *
  clear hl ho3 hb1 hb3
  obtain ⟨a3, c3, rfl, hm3, hc3, _, hrow3⟩ := hF
  have HF := Lib.hid hrow3
  have HSM := Lib.hid hsm
  clear hrow3 hsm hm3
  go_upto_region 5 with fail
  have hN := NilW.new w3 w3.heap.size rfl
  have hbN := bal (bre w3) (.cells #[.slice none 0 0] 26)
  have hsN : (w3.alloc (.cells #[.slice none 0 0] 26)).heap.size = w3.heap.size + 1 := by simp
  generalize w3.alloc (.cells #[.slice none 0 0] 26) = w5 at *
  have hsl0 : ∀ j : Nat, (Value.slice none 0 0).ownBlock = some j → slotBlock w5 w3.heap.size ≠ some j := fun j h => by cases h
  have HN := Lib.hid (hN.at w5.heap.size)
  clear hN
  obtain ⟨g4, hg4⟩ : ∃ g4, g4 = w3.heap.size := ⟨_, rfl⟩
  rw [← hg4] at HN hsl0 ⊢
  have hg45 : g4 < w5.heap.size := by omega
  have HG := Lib.hid hg4
  clear hg4
  go_wp2
  go_loopw [4, 21] (fun want i wr => ∃ (k : Nat) (m : List UInt8), i = .int .i64 k ∧ k ≤ L.length ∧ WriterAt w5.heap.size wr g4 m ∧ Own8 5 w3.heap.size wr want m ∧ (∀ j, want.ownBlock = some j → slotBlock wr g4 ≠ some j) ∧ m.length ≤ k * 1100 ∧ Hid (m = laid (L.take k)) ∧ Below w3.heap.size w3 wr ∧ w5.heap.size ≤ wr.heap.size) (fun _ i _ => L.length - (intOf i).toNat)
  case atStart => exact ⟨0, [], rfl, by omega, HN.out, Own8.nil _ _ _, hsl0, by simp, Lib.hid (by simp [laid]), hbN, Nat.le_refl _⟩
  case round =>
    obtain ⟨k, m, rfl, hk, hwm, hown, hap, hmk, HM, hbr, hBr⟩ := hrel
    by_cases hlt : k < L.length
    · rcases HF.out with h0 | ⟨g, o', rfl, hcell⟩
      · subst h0; simp at hlt
      · obtain ⟨us, hus, hrg, hue⟩ := hcell k _ (List.getElem?_eq_getElem hlt)
        have hsf := (HSM.out _ (List.getElem_mem hlt)).1
        have hsn := laid_snoc L k hlt
        clear hcell
        subst hue
        generalize L[k] = f at *
        rw [← HM.out] at hsn
        obtain ⟨c0, c1, c2, c3'⟩ := rows4 (show w3.rangeAt g (o' + k * 4) [.int .u8 f.kind, .int .u64 f.n, .string f.s, .int .u64 f.most] from hrg)
        have hg : g < w3.heap.size := block_lt_of_cell c0
        have d0 := (hbr.cell (p := ⟨g, o' + k * 4, none⟩) hg).trans c0
        have d1 := (hbr.cell (p := ⟨g, o' + k * 4 + 1, none⟩) hg).trans c1
        have d2 := (hbr.cell (p := ⟨g, o' + k * 4 + 2, none⟩) hg).trans c2
        have d3 := (hbr.cell (p := ⟨g, o' + k * 4 + 3, none⟩) hg).trans c3'
        have HS := Lib.hid hsn
        have HO := Lib.hid hown
        have HAP := Lib.hid hap
        clear c0 c1 c2 c3' hrg hus hsn HM hown hap
        go_wp2_with fail
        have hG := heap_alloc_new wr (.cells #[.int .u8 f.kind, .int .u64 f.n, .string f.s, .int .u64 f.most] 40)
        have hbA := bal (bre wr) (.cells #[.int .u8 f.kind, .int .u64 f.n, .string f.s, .int .u64 f.most] 40)
        have hsA : (wr.alloc (.cells #[.int .u8 f.kind, .int .u64 f.n, .string f.s, .int .u64 f.most] 40)).heap.size = wr.heap.size + 1 := by simp
        generalize (wr.alloc (.cells #[.int .u8 f.kind, .int .u64 f.n, .string f.s, .int .u64 f.most] 40)) = WA at *
        have hwA := hwm.below hbA
        have hoA := HO.out.kept (Nat.le_refl _) hbA
        refine (lay_any w5.heap.size g4 m f WA (by omega) (by omega) hwA (by omega)).mono ?_
        rintro e w7 ⟨rfl, hw7, hg7⟩
        have hslA := slot_below hwm hbA
        have hne : g4 ≠ wr.heap.size := by have := hwm.lt; omega
        have hG7 := (hg7.only.block wr.heap.size (by omega) (fun h => by
          rcases h with h | h
          · exact hne h.symm
          · rw [hslA] at h; have := (slot_lt hwm h).2; omega)).trans hG
        obtain ⟨b0, b1, b2, b3, fr⟩ := row4 hG7
        have hbk : ∀ j, u4.ownBlock = some j → j ≠ g4 ∧ j < wr.heap.size := fun j hj => ⟨fun e => by
          subst e
          obtain ⟨v, hgv, _⟩ := hwm
          exact own8_ne HO.out hgv (by decide) hj, (own_lt HO.out hj).2⟩
        have ho7 : Own8 5 w3.heap.size w7 u4 m := own8_only hoA hg7.only (fun j hj h => by
          rcases h with h | h
          · exact (hbk j hj).1 h
          · rw [hslA] at h; exact HAP.out j hj h)
        have hb7 : Below w3.heap.size wr w7 := (hbA.mono hbr.size).trans (hg7.base hwA (by have := HG.out; omega) (by have := HG.out; omega) (by have := hbr.size; omega))
        have hbr7 := hbr.trans hb7
        have hs7 : wr.heap.size + 1 ≤ w7.heap.size := by have := hg7.size; omega
        clear hG7 hG hbA hsA hwA hoA hg7 hslA hne hbk hwm hbr hb7 HO HAP d0 d1 d2 d3
        have hlt7 : wr.heap.size < w7.heap.size := by omega
        obtain ⟨gr, hgr⟩ : ∃ gr, gr = wr.heap.size := ⟨_, rfl⟩
        rw [← hgr] at b0 b1 b2 b3 fr ⊢
        clear hgr
        go_wp2_with fail
        refine (layr_any f w7 (by omega)).mono ?_
        rintro e w8 ⟨v8, rfl, hy8, hb8⟩
        have ho8 := ho7.kept (Nat.le_refl _) hb8
        have hw8 := hw7.below hb8
        have hsl8 := slot_below hw7 hb8
        have hl8 := lay_small f (by omega)
        have hbr8 := hbr7.trans (hb8.mono hbr7.size)
        have hs8 : wr.heap.size < w8.heap.size := by have := hb8.size; omega
        obtain ⟨a8, c8, rfl, _⟩ := id hy8
        obtain ⟨aw, nw, cw, rfl⟩ := ho8.isSlice
        have HO8 := Lib.hid ho8
        clear hb8 ho7 hw7 ho8 hbr7 hsl8
        go_wp2_with fail
        have hb9 := bal (bre w8) (.cells #[.slice aw nw cw, .slice a8 (layOf f).length c8] 24)
        have hrows := rows_lit2 w8 (.slice aw nw cw) (.slice a8 (layOf f).length c8) m (layOf f) 24 w8.heap.size rfl HO8.out.bytes hy8
        have hw9 := hw8.below hb9
        have hbr9 := hbr8.trans (hb9.mono hbr8.size)
        have hs9 := hb9.size
        generalize w8.alloc (.cells #[.slice aw nw cw, .slice a8 (layOf f).length c8] 24) = w9 at *
        have hfl : [m, layOf f].flatten = m ++ layOf f := by simp
        have hlen : (m ++ layOf f).length ≤ (k + 1) * 1100 := by rw [List.length_append]; omega
        refine (join_any _ [m, layOf f] w9 hrows (by rw [hfl]; omega)).mono ?_
        rintro e w10 ⟨v10, rfl, ho10, hb10⟩
        rw [hfl] at ho10
        have hw10 := hw9.below hb10
        have hsl10 := slot_below hw9 hb10
        have hap10 : ∀ j, v10.ownBlock = some j → slotBlock w10 g4 ≠ some j := fun j hj h => by
          rw [hsl10] at h
          have h1 := (slot_lt hw9 h).2
          have h2 := (own_lt ho10 hj).1
          omega
        have ho10' : Own8 5 w3.heap.size w10 v10 (m ++ layOf f) := ownsRow_base ho10 (by have := hbr9.size; omega)
        have hbr10 := hbr9.trans (hb10.mono hbr9.size)
        have hs10 := hb10.size
        clear hb10 hb9 hw9 hrows HO8 hw8 hbr8 hy8 hsl10 ho10 hbr9 hfl b0 b1 b2 b3 fr
        generalize m ++ layOf f = m' at *
        go_wp2
        go_roundw
        case rel => exact ⟨k + 1, m', by go_num, by omega, hw10, ho10', hap10, hlen, Lib.hid HS.out.symm, hbr10, by omega⟩
        case measure => simp [intOf]; omega
    · have e : k = L.length := by omega
      subst e
      have hm := HM.out
      rw [List.take_length] at hm
      have HMM := Lib.hid hm
      have HO := Lib.hid hown
      clear hm HM hap hown
      obtain ⟨aw, nw, cw, rfl⟩ := HO.out.isSlice
      go_wp2_with fail
      refine (wbytes_any _ g4 m wr hwm (by omega)).mono ?_
      rintro e w10 ⟨v10, rfl, ho10, hb10⟩
      have hy10 := ho10.bytes
      have hyw := HO.out.bytes.below hb10
      have hbr10 := hbr.trans (hb10.mono hbr.size)
      obtain ⟨a10, n10, c10, rfl⟩ := ho10.isSlice
      clear ho10 hb10 hbr hwm hBr
      go_wp2_with fail
      refine (same_any _ _ _ _ w10 hy10 hyw).mono ?_
      rintro e w11 ⟨rfl, k11, rfl⟩
      rw [decide_eq_true (rfl : m = m)]
      have hy11 := hy10.below (bdn (bre w10) k11)
      have hyw11 := hyw.below (bdn (bre w10) k11)
      have hbr11 := Below.drewN' hbr10 k11
      generalize w10.drewN k11 = w11 at *
      clear hy10 hyw hbr10
      go_wp2_with fail
      refine (read_any _ m w11 hy11 (by omega)).mono ?_
      rintro e w12 ⟨r, rfl, hr12, hb12, hk12⟩
      have hyw12 := hyw11.below hb12
      have hbr12 := hbr11.trans (hb12.mono hbr11.size)
      have hk12' : ∀ k, r = .pointer (some ⟨k, 0, none⟩) → w3.heap.size ≤ k := fun k h => Nat.le_trans hbr11.size (hk12 k h)
      clear hy11 hyw11 hbr11 hb12 hk12
      go_wp2
      go_loopw [4, 42] (fun want i wr => ∃ (k : Nat) (t : List UInt8), i = .int .i64 k ∧ k ≤ L.length ∧ RdAt w12.heap.size wr r (some t) ∧ Bytes wr want t ∧ Hid (t = laid (L.drop k)) ∧ Below w3.heap.size w3 wr ∧ w12.heap.size ≤ wr.heap.size) (fun _ i _ => L.length - (intOf i).toNat)
      case atStart => exact ⟨0, m, rfl, by omega, hr12, hyw12, Lib.hid (by rw [List.drop_zero]; exact HMM.out), hbr12, Nat.le_refl _⟩
      case round =>
        obtain ⟨k, t, rfl, hk, hro, hyp, HT, hbr, hBr⟩ := hrel
        by_cases hlt : k < L.length
        · rcases HF.out with h0 | ⟨g, o', rfl, hcell⟩
          · subst h0; simp at hlt
          · obtain ⟨us, hus, hrg, hue⟩ := hcell k _ (List.getElem?_eq_getElem hlt)
            have hsf := (HSM.out _ (List.getElem_mem hlt)).1
            have hsn := laid_drop L k hlt
            clear hcell
            subst hue
            generalize L[k] = f at *
            have htk := lay_take f (laid (L.drop (k + 1))) hsf
            rw [← hsn, ← HT.out] at htk
            obtain ⟨c0, c1, c2, c3'⟩ := rows4 (show w3.rangeAt g (o' + k * 4) [.int .u8 f.kind, .int .u64 f.n, .string f.s, .int .u64 f.most] from hrg)
            have hg : g < w3.heap.size := block_lt_of_cell c0
            have d0 := (hbr.cell (p := ⟨g, o' + k * 4, none⟩) hg).trans c0
            have d1 := (hbr.cell (p := ⟨g, o' + k * 4 + 1, none⟩) hg).trans c1
            have d2 := (hbr.cell (p := ⟨g, o' + k * 4 + 2, none⟩) hg).trans c2
            have d3 := (hbr.cell (p := ⟨g, o' + k * 4 + 3, none⟩) hg).trans c3'
            have HY := Lib.hid hyp
            have HTK := Lib.hid htk
            clear c0 c1 c2 c3' hrg hus hyp hsn htk
            have hfk := f.hk
            by_cases h2 : f.kind % 5 = 2
            · have h2b : ((f.kind : Int) % 5 == 2) = true := by simp; omega
              have hm2 : most2 f = 40 := by unfold most2; rw [if_pos h2]
              have hFV : FldV (again f) = .agg #[.int .u8 f.kind, .int .u64 f.n, .string f.s, .int .u64 40] := by
                unfold FldV Fld.cells again
                simp only [hm2]
                rfl
              go_wp2_with fail
              have hG := heap_alloc_new wr (.cells #[.int .u8 f.kind, .int .u64 f.n, .string f.s, .int .u64 40] 40)
              have hbA := bal (bre wr) (.cells #[.int .u8 f.kind, .int .u64 f.n, .string f.s, .int .u64 40] 40)
              have hne := rd_ne hro (Nat.le_refl wr.heap.size)
              have hsA : (wr.alloc (.cells #[.int .u8 f.kind, .int .u64 f.n, .string f.s, .int .u64 40] 40)).heap.size = wr.heap.size + 1 := by simp
              generalize (wr.alloc (.cells #[.int .u8 f.kind, .int .u64 f.n, .string f.s, .int .u64 40] 40)) = WA at *
              have hroA := hro.keep hbA
              have hcall := ltake_any w12.heap.size r (some t) (again f) WA hroA (by omega)
              rw [hFV] at hcall
              refine hcall.mono ?_
              clear hcall
              rintro e w5 ⟨rfl, hr5, ht5⟩
              obtain ⟨b0, b1, b2, b3, fr⟩ := row4 (ht5.block hG hne)
              have hy5 := bytes_turn hroA ht5 (HY.out.below hbA)
              have hb5 : Below w3.heap.size wr w5 := (hbA.mono hbr.size).trans (ht5.base hk12' (by have := hbr.size; omega))
              have hs5 : w12.heap.size ≤ w5.heap.size := by have := ht5.size; omega
              obtain ⟨f', hf', hfk', hfm, hfs, _, _⟩ := takeOf_fld (again f) (some t)
              have hcf' : FldV f' = .agg #[.int .u8 f.kind, .int .u64 f'.n, .string f'.s, .int .u64 40] := by
                unfold FldV Fld.cells
                rw [hfk', hfm]
                unfold again
                simp only [hm2]
                rfl
              have hT := hf'.trans hcf'
              rw [hT]
              rw [HTK.out] at hr5
              have HT' := Lib.hid hT
              have hlt5 : wr.heap.size < w5.heap.size := by have := ht5.size; omega
              have hbr5 := hbr.trans hb5
              have HFV := Lib.hid hFV
              clear hT hcf' hf' hfk' hfm hG hbA hne hroA ht5 d0 d1 d2 d3 hb5 hsA HY hbr hBr hro hFV
              generalize hgr : wr.heap.size = gr at *
              clear hgr
              go_wp2_with fail
              have hb7 := bal (bre w5) (.cells #[.int .u8 f.kind, .int .u64 f'.n, .string f'.s, .int .u64 40] 40)
              have hr7 := hr5.keep hb7
              have hy7 := hy5.below hb7
              have hG9 := heap_alloc_new w5 (.cells #[.int .u8 f.kind, .int .u64 f'.n, .string f'.s, .int .u64 40] 40)
              have hs2 : (w5.alloc (.cells #[.int .u8 f.kind, .int .u64 f'.n, .string f'.s, .int .u64 40] 40)).heap.size = w5.heap.size + 1 := by simp
              generalize w5.alloc (.cells #[.int .u8 f.kind, .int .u64 f'.n, .string f'.s, .int .u64 40] 40) = w7 at *
              have hcall := rtake_any u4 t (again f) w7 hy7 (fun h => by
                show most2 f < 1000
                unfold most2
                rw [if_pos (show f.kind % 5 = 2 from h)]
                omega)
              rw [HFV.out] at hcall
              refine hcall.mono ?_
              clear hcall
              rintro e w8 ⟨⟨u, rfl, hyu⟩, hb8⟩
              rw [HT'.out, HTK.out]
              rw [HTK.out] at hyu
              have hy8 : Bytes w8 u (laid (L.drop (k + 1))) := (hyu w7 hy7).below hb8
              have hr8 := hr7.keep hb8
              obtain ⟨x0, x1, x2, x3, xf⟩ := row4 ((hb8.block w5.heap.size (by omega)).trans hG9)
              have hbr8 := hbr5.trans ((hb7.mono hbr5.size).trans (hb8.mono (Nat.le_trans hbr5.size hb7.size)))
              have hs8 : w5.heap.size < w8.heap.size := by have := hb8.size; omega
              have HTT : Hid (laid (L.drop (k + 1)) = laid (L.drop (k + 1))) := Lib.hid rfl
              obtain ⟨t', ht'⟩ : ∃ t', t' = laid (L.drop (k + 1)) := ⟨_, rfl⟩
              rw [← ht'] at hy8 hr8 hyu
              have HT2 := Lib.hid ht'
              obtain ⟨ua, uc, rfl, hu1, hu2, _⟩ := id hy8
              clear HTT HTK HT' HFV hb8 hb7 hG9 hr7 hy7 hyu hbr5 ht' hs2
              have hs58 : w12.heap.size ≤ w8.heap.size := by omega
              generalize w5.heap.size = g5 at *
              go_wp2_with fail
              have hb9 := bal (bre w8) (.cells #[.int .u8 f.kind, .int .u64 f'.n, .string f'.s, .int .u64 40] 40)
              have hr9 := hr8.keep hb9
              have hy9 := hy8.below hb9
              have hbr9 := hbr8.trans (hb9.mono hbr8.size)
              have hs9 := Nat.le_trans hs58 hb9.size
              generalize w8.alloc (.cells #[.int .u8 f.kind, .int .u64 f'.n, .string f'.s, .int .u64 40] 40) = w9 at *
              refine (left_any _ r (some t') w9 hr9).mono ?_
              rintro e w10' ⟨rfl, rfl⟩
              rw [show (Rd.left (some t')) = t'.length by rfl]
              go_wp2
              go_roundw
              case rel => exact ⟨k + 1, t', by go_num, by omega, hr9, hy9, HT2, hbr9, hs9⟩
              case measure => simp [intOf]; omega
            · have h2b : ((f.kind : Int) % 5 == 2) = false := by simp; omega
              have hm2 : most2 f = 18446744073709551615 := by unfold most2; rw [if_neg h2]
              have hFV : FldV (again f) = .agg #[.int .u8 f.kind, .int .u64 f.n, .string f.s, .int .u64 18446744073709551615] := by
                unfold FldV Fld.cells again
                simp only [hm2]
                rfl
              go_wp2_with fail
              have hG := heap_alloc_new wr (.cells #[.int .u8 f.kind, .int .u64 f.n, .string f.s, .int .u64 18446744073709551615] 40)
              have hbA := bal (bre wr) (.cells #[.int .u8 f.kind, .int .u64 f.n, .string f.s, .int .u64 18446744073709551615] 40)
              have hne := rd_ne hro (Nat.le_refl wr.heap.size)
              have hsA : (wr.alloc (.cells #[.int .u8 f.kind, .int .u64 f.n, .string f.s, .int .u64 18446744073709551615] 40)).heap.size = wr.heap.size + 1 := by simp
              generalize (wr.alloc (.cells #[.int .u8 f.kind, .int .u64 f.n, .string f.s, .int .u64 18446744073709551615] 40)) = WA at *
              have hroA := hro.keep hbA
              have hcall := ltake_any w12.heap.size r (some t) (again f) WA hroA (by omega)
              rw [hFV] at hcall
              refine hcall.mono ?_
              clear hcall
              rintro e w5 ⟨rfl, hr5, ht5⟩
              obtain ⟨b0, b1, b2, b3, fr⟩ := row4 (ht5.block hG hne)
              have hy5 := bytes_turn hroA ht5 (HY.out.below hbA)
              have hb5 : Below w3.heap.size wr w5 := (hbA.mono hbr.size).trans (ht5.base hk12' (by have := hbr.size; omega))
              have hs5 : w12.heap.size ≤ w5.heap.size := by have := ht5.size; omega
              obtain ⟨f', hf', hfk', hfm, hfs, _, _⟩ := takeOf_fld (again f) (some t)
              have hcf' : FldV f' = .agg #[.int .u8 f.kind, .int .u64 f'.n, .string f'.s, .int .u64 18446744073709551615] := by
                unfold FldV Fld.cells
                rw [hfk', hfm]
                unfold again
                simp only [hm2]
                rfl
              have hT := hf'.trans hcf'
              rw [hT]
              rw [HTK.out] at hr5
              have HT' := Lib.hid hT
              have hlt5 : wr.heap.size < w5.heap.size := by have := ht5.size; omega
              have hbr5 := hbr.trans hb5
              have HFV := Lib.hid hFV
              clear hT hcf' hf' hfk' hfm hG hbA hne hroA ht5 d0 d1 d2 d3 hb5 hsA HY hbr hBr hro hFV
              generalize hgr : wr.heap.size = gr at *
              clear hgr
              go_wp2_with fail
              have hb7 := bal (bre w5) (.cells #[.int .u8 f.kind, .int .u64 f'.n, .string f'.s, .int .u64 18446744073709551615] 40)
              have hr7 := hr5.keep hb7
              have hy7 := hy5.below hb7
              have hG9 := heap_alloc_new w5 (.cells #[.int .u8 f.kind, .int .u64 f'.n, .string f'.s, .int .u64 18446744073709551615] 40)
              have hs2 : (w5.alloc (.cells #[.int .u8 f.kind, .int .u64 f'.n, .string f'.s, .int .u64 18446744073709551615] 40)).heap.size = w5.heap.size + 1 := by simp
              generalize w5.alloc (.cells #[.int .u8 f.kind, .int .u64 f'.n, .string f'.s, .int .u64 18446744073709551615] 40) = w7 at *
              have hcall := rtake_any u4 t (again f) w7 hy7 (fun h => by
                show most2 f < 1000
                unfold most2
                rw [if_pos (show f.kind % 5 = 2 from h)]
                omega)
              rw [HFV.out] at hcall
              refine hcall.mono ?_
              clear hcall
              rintro e w8 ⟨⟨u, rfl, hyu⟩, hb8⟩
              rw [HT'.out, HTK.out]
              rw [HTK.out] at hyu
              have hy8 : Bytes w8 u (laid (L.drop (k + 1))) := (hyu w7 hy7).below hb8
              have hr8 := hr7.keep hb8
              obtain ⟨x0, x1, x2, x3, xf⟩ := row4 ((hb8.block w5.heap.size (by omega)).trans hG9)
              have hbr8 := hbr5.trans ((hb7.mono hbr5.size).trans (hb8.mono (Nat.le_trans hbr5.size hb7.size)))
              have hs8 : w5.heap.size < w8.heap.size := by have := hb8.size; omega
              have HTT : Hid (laid (L.drop (k + 1)) = laid (L.drop (k + 1))) := Lib.hid rfl
              obtain ⟨t', ht'⟩ : ∃ t', t' = laid (L.drop (k + 1)) := ⟨_, rfl⟩
              rw [← ht'] at hy8 hr8 hyu
              have HT2 := Lib.hid ht'
              obtain ⟨ua, uc, rfl, hu1, hu2, _⟩ := id hy8
              clear HTT HTK HT' HFV hb8 hb7 hG9 hr7 hy7 hyu hbr5 ht' hs2
              have hs58 : w12.heap.size ≤ w8.heap.size := by omega
              generalize w5.heap.size = g5 at *
              go_wp2_with fail
              have hb9 := bal (bre w8) (.cells #[.int .u8 f.kind, .int .u64 f'.n, .string f'.s, .int .u64 18446744073709551615] 40)
              have hr9 := hr8.keep hb9
              have hy9 := hy8.below hb9
              have hbr9 := hbr8.trans (hb9.mono hbr8.size)
              have hs9 := Nat.le_trans hs58 hb9.size
              generalize w8.alloc (.cells #[.int .u8 f.kind, .int .u64 f'.n, .string f'.s, .int .u64 18446744073709551615] 40) = w9 at *
              refine (left_any _ r (some t') w9 hr9).mono ?_
              rintro e w10' ⟨rfl, rfl⟩
              rw [show (Rd.left (some t')) = t'.length by rfl]
              go_wp2
              go_roundw
              case rel => exact ⟨k + 1, t', by go_num, by omega, hr9, hy9, HT2, hbr9, hs9⟩
              case measure => simp [intOf]; omega
        · have e : k = L.length := by omega
          subst e
          have ht : t = [] := by rw [HT.out, List.drop_length]; rfl
          have hd := done_any _ r _ wr hro
          rw [if_pos (by rw [ht])] at hd
          have HD := Lib.hid hd
          clear hd ht HT
          go_wp2_with (go_at_call 20; refine HD.out.mono ?_; rintro e w9 ⟨rfl, rfl⟩)
          go_ret
          exact ⟨rfl, hb123.trans (hbr.mono hb123.size)⟩
end Go.Proofs.Ytddhnenlfdpomaa
