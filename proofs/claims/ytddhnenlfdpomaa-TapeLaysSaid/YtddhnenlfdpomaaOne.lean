/- TapeOne: bytes that are read to their end are just those that are laid of what was read. -/
import Derived.Test.YtddhnenlfdpomaaTakes
import Derived.Test.YtddhnenlfdpomaaLay
namespace Go.Proofs.Ytddhnenlfdpomaa
open Go.RowKit

theorem lay_small (f : Fld) (h : f.s.size ≤ 1000) : (layOf f).length ≤ 1100 := by
  unfold layOf
  have h1 := (Vi.varint_length (zig (wrap64 f.n))).2
  have h2 := (Vi.varint_length f.s.size).2
  have h3 := (Vi.varint_length f.n).2
  have h4 : f.s.data.toList.length = f.s.size := Array.length_toList
  split
  · omega
  · split
    · rw [List.length_append, h4]; omega
    · split
      · simp
      · split
        · simp
        · omega

theorem own8_only {e : TypeId} {base : Nat} {w w' : World} {S : Nat → Prop} {v : Value} {l : List UInt8} (h : Own8 e base w v l) (ho : Only w w' S) (hs : ∀ k, v.ownBlock = some k → ¬ S k) : Own8 e base w' v l := by
  refine ⟨h.1, ?_⟩
  rcases h.2 with h2 | ⟨g, cap, cur, h1, hb, hg, hr⟩
  · exact .inl h2
  · exact .inr ⟨g, cap, cur, h1, hb, (ho.block g (Array.getElem?_eq_some_iff.1 hg).1 (hs g (by rw [h1]; rfl))).trans hg, hr⟩

theorem own8_block_ge {e : TypeId} {base : Nat} {w : World} {v : Value} {l : List UInt8} (h : Own8 e base w v l) {k : Nat} (hk : v.ownBlock = some k) : base ≤ k := by
  rcases h.2 with ⟨h2, _⟩ | ⟨g, cap, cur, h1, hb, hg, hr⟩
  · rw [h2] at hk; cases hk
  · rw [h1] at hk; simp [Value.ownBlock] at hk; omega

theorem writer_turned {base g : Nat} {w w' : World} {r : Value} {m : List UInt8} (h : WriterAt base w g m) (ht : Turned w w' r) (hr : ∀ j, r = .pointer (some ⟨j, 0, none⟩) → j < g) (hb : g < base) : WriterAt base w' g m := by
  obtain ⟨v, hg, ho⟩ := h
  refine ⟨v, (Only.block ht g (Array.getElem?_eq_some_iff.1 hg).1 (fun e => by have := hr g e; omega)).trans hg, own8_only ho ht (fun k hk e => ?_)⟩
  have h1 := own8_block_ge ho hk
  have h2 := hr k e
  omega

theorem Below.drewN' {B : Nat} {a b : World} (h : Below B a b) (n : Nat) : Below B a (b.drewN n) := ⟨h.os, h.tape, h.output, h.size, h.block⟩

set_option maxRecDepth 10000 in
set_option maxHeartbeats 3200000 in
theorem one_calls (v0 v1 : Value) (p : List UInt8) (l : List Fld) (w : World) (hp : Bytes w v0 p) (hl : Flds w v1 l) :
    Calls Try.prog 5 #[v0, v1] w fun e w' => e = .returned (.bool true) ∧ Below w.heap.size w w' := by
  go_enter Try.func5, Try.ntmps5
  go_wp2_with fail
  refine (awake_any w).mono ?_
  rintro e w1 ⟨rfl, hb1⟩
  go_wp2_with fail
  refine (cut_any v0 p 60 (by omega) (by omega) w1 (hp.below hb1)).mono ?_
  rintro e w2 ⟨v2, rfl, ho2, hb2⟩
  have hb12 := btr hb1 hb2
  go_wp2_with fail
  refine (few_any v1 l w2 (Recs.mono (by omega) hl hb12 fun _ _ _ h => h)).mono ?_
  rintro e w3 ⟨v3, rfl, ho3, hb3⟩
  have hy3 := ho2.bytes.below hb3
  have hp60 : (p.take 60).length ≤ 60 := by simp; omega
  rw [show (60 : Int).toNat = 60 by rfl] at hy3
  have hF := fields_of_own ho3
  have hsm : ∀ f ∈ fewOf l, f.s.size ≤ 40 ∧ (f.kind % 5 = 2 → f.most < 1000) := fun f => few_small
  have hl12 : (fewOf l).length ≤ 12 := by unfold fewOf; simp; omega
  have hb123 := btr hb12 hb3
  generalize fewOf l = L at *
  generalize p.take 60 = q at *
  clear hl hp ho2 ho3 hb1 hb2 hb3 hb12
  go_wp2_with fail
  refine (read_any v2 q w3 hy3 (by omega)).mono ?_
  rintro e w4 ⟨r, rfl, hr4, hb4, hk4⟩
  have hy4 := hy3.below hb4
  obtain ⟨a3, c3, rfl, hm3, hc3, _, hrow3⟩ := hF
  have HF := Lib.hid hrow3
  have HSM := Lib.hid hsm
  clear hrow3 hsm hm3
  go_upto_region 6 with fail
  have hN := NilW.new w4 w4.heap.size rfl
  have hbN := bal (bre w4) (.cells #[.slice none 0 0] 26)
  have hsN : (w4.alloc (.cells #[.slice none 0 0] 26)).heap.size = w4.heap.size + 1 := by simp
  generalize w4.alloc (.cells #[.slice none 0 0] 26) = w5 at *
  have hr5 := hr4.keep hbN
  have hb5 := btr hb4 hbN
  have hg3 := hb4.size
  have HN := Lib.hid (hN.at w5.heap.size)
  have HY := Lib.hid hy3
  clear hN hbN hr4 hb4 hy4 hy3
  have hle45 : w4.heap.size < w5.heap.size := by omega
  generalize hg4 : w4.heap.size = g4 at *
  clear hg4
  go_wp2
  go_loopw [19] (fun i wr => ∃ (k : Nat) (o : Option (List UInt8)) (m : List UInt8), i = .int .i64 k ∧ k ≤ L.length ∧ RdAt g4 wr r o ∧ WriterAt w5.heap.size wr g4 m ∧ m.length ≤ k * 1100 ∧ Hid (∀ t, o = some t → q = m ++ t) ∧ Below w3.heap.size w3 wr ∧ w5.heap.size ≤ wr.heap.size) (fun i _ => L.length - (intOf i).toNat)
  case atStart => exact ⟨0, some q, [], rfl, by omega, hr5, HN.out, by simp, Lib.hid (fun t h => by cases h; rfl), hb5, Nat.le_refl _⟩
  case round =>
    obtain ⟨k, o, m, rfl, hk, hro, hwm, hmk, HM, hbr, hBr⟩ := hrel
    by_cases hlt : k < L.length
    · rcases HF.out with h0 | ⟨g, o', rfl, hcell⟩
      · subst h0; simp at hlt
      · obtain ⟨us, hus, hrg, hue⟩ := hcell k _ (List.getElem?_eq_getElem hlt)
        have hsf := HSM.out _ (List.getElem_mem hlt)
        clear hcell
        subst hue
        generalize L[k] = f at *
        obtain ⟨c0, c1, c2, c3'⟩ := rows4 (show w3.rangeAt g (o' + k * 4) [.int .u8 f.kind, .int .u64 f.n, .string f.s, .int .u64 f.most] from hrg)
        have hg : g < w3.heap.size := block_lt_of_cell c0
        have d0 := (hbr.cell (p := ⟨g, o' + k * 4, none⟩) hg).trans c0
        have d1 := (hbr.cell (p := ⟨g, o' + k * 4 + 1, none⟩) hg).trans c1
        have d2 := (hbr.cell (p := ⟨g, o' + k * 4 + 2, none⟩) hg).trans c2
        have d3 := (hbr.cell (p := ⟨g, o' + k * 4 + 3, none⟩) hg).trans c3'
        clear c0 c1 c2 c3' hrg hus
        go_wp2_with fail
        have hbA := bal (bre wr) (.cells #[.int .u8 f.kind, .int .u64 f.n, .string f.s, .int .u64 f.most] 40)
        generalize (wr.alloc (.cells #[.int .u8 f.kind, .int .u64 f.n, .string f.s, .int .u64 f.most] 40)) = WA at *
        have hroA := hro.keep hbA
        have hwmA := hwm.below hbA
        have hsA := hbA.size
        refine (ltake_any g4 r o f WA hroA (by omega)).mono ?_
        rintro e w6 ⟨rfl, hr6, ht6⟩
        obtain ⟨f', hf', hfk, hfm, hfs, hrest, hbase⟩ := takeOf_fld f o
        rw [hf']
        have hrk : ∀ j, r = .pointer (some ⟨j, 0, none⟩) → j < g4 := fun j e => by
          rcases hroA with ⟨h, _⟩ | ⟨g', u, h, hg', _⟩
          · rw [h] at e; cases e
          · rw [h] at e; cases e; exact hg'
        have hwm6 := writer_turned hwmA ht6 hrk hle45
        have hb6 : Below w3.heap.size wr w6 := (hbA.mono hbr.size).trans (ht6.base hk4 (by have := hbr.size; omega))
        have hs6 := ht6.size
        have hM2 : ∀ t, takeRest f o = some t → q = (m ++ layOf f') ++ t := fun t ht => by
          obtain ⟨p, hp, hpe⟩ := hrest t ht
          rw [HM.out p hp, hpe, List.append_assoc]
        have HM2 := Lib.hid hM2
        have hlen := lay_small f' hfs
        have hbr6 := hbr.trans hb6
        clear hM2 HM hb6 hbr hbase hrest hf' hrk ht6 hroA hwmA hbA hro hwm d0 d1 d2 d3
        go_wp2_with fail
        refine (lay_any w5.heap.size g4 m f' w6 (by omega) (by omega) hwm6 (by omega)).mono ?_
        rintro e w7 ⟨rfl, hw7, hg7⟩
        have hb7 := hg7.base hwm6 (Nat.le_refl g4) (by omega) (by omega)
        have hr7 := hr6.low hb7
        have hb37 := hbr6.trans (hb7.mono hg3)
        have hs7 := hb7.size
        have hml : (m ++ layOf f').length ≤ (k + 1) * 1100 := by rw [List.length_append]; omega
        clear hb7 hg7 hwm6 hr6 hbr6
        generalize m ++ layOf f' = m' at *
        generalize takeRest f o = o' at *
        go_wp2
        go_roundw
        case rel => exact ⟨k + 1, o', m', by go_num, by omega, hr7, hw7, hml, HM2, hb37, by omega⟩
        case measure => simp [intOf]; omega
    · have e : k = L.length := by omega
      subst e
      have hd := done_any _ r _ wr hro
      by_cases ho : o = some []
      · rw [if_pos ho] at hd
        have hq : q = m := by rw [HM.out [] ho]; simp
        have HD := Lib.hid hd
        have HQ := Lib.hid hq
        clear hd hq HM
        go_wp2_with (go_at_call 20; refine HD.out.mono ?_; rintro e w9 ⟨rfl, rfl⟩)
        refine (wbytes_any _ g4 m w9 hwm (by omega)).mono ?_
        rintro e w10 ⟨v10, rfl, ho10, hb10⟩
        have hb310 := hbr.trans (hb10.mono hbr.size)
        have hy10 := HY.out.below hb310
        have hyv := ho10.bytes
        obtain ⟨a10, n10, c10, rfl⟩ := ho10.isSlice
        go_wp2_with fail
        refine (same_any _ _ _ _ w10 hyv hy10).mono ?_
        rintro e w11 ⟨rfl, k11, rfl⟩
        rw [decide_eq_true HQ.out.symm]
        go_wp2
        go_ret
        exact ⟨rfl, hb123.trans ((Below.drewN' hb310 k11).mono hb123.size)⟩
      · rw [if_neg ho] at hd
        have HD := Lib.hid hd
        clear hd
        go_wp2_with (go_at_call 20; refine HD.out.mono ?_; rintro e w9 ⟨rfl, rfl⟩)
        go_ret
        exact ⟨rfl, hb123.trans (hbr.mono hb123.size)⟩
end Go.Proofs.Ytddhnenlfdpomaa
