/- TapeTakes: of any bytes, asked for any fields, just the document's are told. -/
import Derived.Test.YtddhnenlfdpomaaTakes0
import Derived.Test.YtddhnenlfdpomaaAwakeT
namespace Go.Proofs.Ytddhnenlfdpomaa
open Go.RowKit

theorem few_small {l : List Fld} {f : Fld} (h : f ∈ fewOf l) : f.s.size ≤ 40 ∧ (f.kind % 5 = 2 → f.most < 1000) := by
  unfold fewOf at h
  obtain ⟨f0, _, rfl⟩ := List.mem_map.1 h
  refine ⟨size_firstOf' _ _, fun h2 => ?_⟩
  show (if f0.kind % 5 = 2 then f0.most % 1000 else f0.most) < 1000
  rw [if_pos (show f0.kind % 5 = 2 from h2)]
  omega

theorem fields_of_own {w : World} {base : Nat} {v : Value} {l : List Fld} (h : w.ownsRow base 40 4 v l.length (l.flatMap fun f => f.cells.toList)) : Recs 4 (fun _ us f => us = f.cells.toList) w v l :=
  recs_of_own (cs := fun f : Fld => f.cells.toList) (fun _ => rfl) (by omega) h

theorem rd_ne {B : Nat} {w : World} {v : Value} {o : Option (List UInt8)} (h : RdAt B w v o) {k : Nat} (hk : w.heap.size ≤ k) : v ≠ .pointer (some ⟨k, 0, none⟩) := by
  intro e
  rcases h.ptr with hp | ⟨g, hp, hg⟩
  · rw [hp] at e; cases e
  · rw [hp] at e; cases e; omega

set_option maxRecDepth 10000 in
set_option maxHeartbeats 3200000 in
theorem takes_calls (v0 v1 : Value) (p : List UInt8) (l : List Fld) (w : World) (hp : Bytes w v0 p) (hl : Flds w v1 l) :
    Calls Try.prog 4 #[v0, v1] w fun e w' => e = .returned (.bool true) ∧ Below w.heap.size w w' := by
  go_enter Try.func4, Try.ntmps4
  go_wp2_with fail
  refine (awake_any w).mono ?_
  rintro e w1 ⟨rfl, hb1⟩
  go_wp2_with fail
  refine (cut_any v0 p 60 (by omega) (by omega) w1 (hp.below hb1)).mono ?_
  rintro e w2 ⟨v2, rfl, ho2, hb2⟩
  have hb12 := btr hb1 hb2
  go_wp2_with fail
  refine (few_any v1 l w2 (Recs.mono (by omega) hl hb12 fun _ _ _ h => h)).mono ?_
  rintro e w3 ⟨v3, rfl, ho3, hb3⟩
  have hy3 := ho2.bytes.below hb3
  have hp60 : (p.take 60).length ≤ 60 := by simp; omega
  rw [show (60 : Int).toNat = 60 by rfl] at hy3
  have hF := fields_of_own ho3
  have hsm : ∀ f ∈ fewOf l, f.s.size ≤ 40 ∧ (f.kind % 5 = 2 → f.most < 1000) := fun f => few_small
  have hl12 : (fewOf l).length ≤ 12 := by unfold fewOf; simp; omega
  have hb123 := btr hb12 hb3
  generalize fewOf l = L at *
  generalize p.take 60 = q at *
  clear hl hp ho2 ho3 hb1 hb2 hb3 hb12
  go_wp2_with fail
  refine (read_any v2 q w3 hy3 (by omega)).mono ?_
  rintro e w4 ⟨r, rfl, hr4, hb4, hk4⟩
  have hy4 := hy3.below hb4
  obtain ⟨a3, c3, rfl, hm3, hc3, _, hrow3⟩ := hF
  have HF := Lib.hid hrow3
  have HSM := Lib.hid hsm
  clear hrow3 hsm hm3 hy3
  go_wp2
  go_loopw [0, 6, 26] (fun p0 ok i wr => ∃ (k : Nat) (o : Option (List UInt8)), i = .int .i64 k ∧ k ≤ L.length ∧ ok = .bool o.isSome ∧ Bytes wr p0 (o.getD []) ∧ RdAt w4.heap.size wr r o ∧ Below w3.heap.size w3 wr ∧ w4.heap.size ≤ wr.heap.size) (fun _ _ i _ => L.length - (intOf i).toNat)
  case atStart => exact ⟨0, some q, rfl, by omega, rfl, hy4, hr4, hb4, Nat.le_refl _⟩
  case round =>
    obtain ⟨k, o, rfl, hk, rfl, hyp, hro, hbr, hBr⟩ := hrel
    by_cases hlt : k < L.length
    · rcases HF.out with h0 | ⟨g, o', rfl, hcell⟩
      · subst h0; simp at hlt
      · obtain ⟨us, hus, hrg, hue⟩ := hcell k _ (List.getElem?_eq_getElem hlt)
        have hsf := HSM.out _ (List.getElem_mem hlt)
        clear hcell
        subst hue
        generalize L[k] = f at *
        obtain ⟨c0, c1, c2, c3'⟩ := rows4 (show w3.rangeAt g (o' + k * 4) [.int .u8 f.kind, .int .u64 f.n, .string f.s, .int .u64 f.most] from hrg)
        have hg : g < w3.heap.size := block_lt_of_cell c0
        have d0 := (hbr.cell (p := ⟨g, o' + k * 4, none⟩) hg).trans c0
        have d1 := (hbr.cell (p := ⟨g, o' + k * 4 + 1, none⟩) hg).trans c1
        have d2 := (hbr.cell (p := ⟨g, o' + k * 4 + 2, none⟩) hg).trans c2
        have d3 := (hbr.cell (p := ⟨g, o' + k * 4 + 3, none⟩) hg).trans c3'
        clear c0 c1 c2 c3' hrg hus
        have HY := Lib.hid hyp
        clear hyp
        go_wp2_with fail
        have hG := heap_alloc_new wr (.cells #[.int .u8 f.kind, .int .u64 f.n, .string f.s, .int .u64 f.most] 40)
        have hbA := bal (bre wr) (.cells #[.int .u8 f.kind, .int .u64 f.n, .string f.s, .int .u64 f.most] 40)
        have hne := rd_ne hro (Nat.le_refl wr.heap.size)
        have hsA : (wr.alloc (.cells #[.int .u8 f.kind, .int .u64 f.n, .string f.s, .int .u64 f.most] 40)).heap.size = wr.heap.size + 1 := by simp
        generalize (wr.alloc (.cells #[.int .u8 f.kind, .int .u64 f.n, .string f.s, .int .u64 f.most] 40)) = WA at *
        have hroA := hro.keep hbA
        refine (ltake_any w4.heap.size r o f WA hroA (by omega)).mono ?_
        rintro e w5 ⟨rfl, hr5, ht5⟩
        obtain ⟨b0, b1, b2, b3, fr⟩ := row4 (ht5.block hG hne)
        have hy5 := bytes_turn hroA ht5 (HY.out.below hbA)
        have hb5 : Below w3.heap.size wr w5 := (hbA.mono hbr.size).trans (ht5.base hk4 (by have := hbr.size; omega))
        have hs5 : w4.heap.size ≤ w5.heap.size := by have := ht5.size; omega
        obtain ⟨f', hf', hfk, hfm, hfs, hrest, hbase⟩ := takeOf_fld f o
        have hlt5 : wr.heap.size < w5.heap.size := by have := ht5.size; omega
        have hbr5 := hbr.trans hb5
        clear hG hbA hne hroA ht5 d0 d1 d2 d3 hb5 hsA HY hbr hBr hro
        generalize hgr : wr.heap.size = gr at *
        clear hgr
        have HR := Lib.hid hrest
        have HB := Lib.hid hbase
        clear hrest hbase
        cases o with
        | none =>
          have hro0 : takeRest f none = none := by
            cases h : takeRest f none with
            | none => rfl
            | some x => obtain ⟨p, hp, _⟩ := HR.out x h; cases hp
          rw [HB.out hro0]
          rw [hro0] at hr5
          clear hf'
          go_wp2_with fail
          have hb7 := bal (bal (bre w5) (.cells #[.int .u8 f.kind, .int .u64 0, .string ⟨#[]⟩, .int .u64 f.most] 40)) (.cells #[.int .u8 f.kind, .int .u64 0, .string ⟨#[]⟩, .int .u64 f.most] 40)
          have hr7 := hr5.keep hb7
          have hy7 := hy5.below hb7
          have hb37 := hbr5.trans (hb7.mono hbr5.size)
          have hs7 := Nat.le_trans hs5 hb7.size
          generalize (w5.alloc (.cells #[.int .u8 f.kind, .int .u64 0, .string ⟨#[]⟩, .int .u64 f.most] 40)).alloc (.cells #[.int .u8 f.kind, .int .u64 0, .string ⟨#[]⟩, .int .u64 f.most] 40) = w7 at *
          refine (left_any _ r none w7 hr7).mono ?_
          rintro e w8 ⟨rfl, rfl⟩
          rw [show (Rd.left none) = 0 by rfl]
          go_wp2
          go_roundw
          case rel => exact ⟨k + 1, none, by go_num, by omega, rfl, hy7, hr7, hb37, hs7⟩
          case measure => simp [intOf]; omega
        | some pl =>
          have hy5' : Bytes w5 u0 pl := hy5
          cases hrt : takeRest f (some pl) with
          | none =>
            have hT := HB.out hrt
            rw [hrt] at hr5
            rw [hT]
            have HT := Lib.hid hT
            have HRT := Lib.hid hrt
            clear hT hf' hy5 hrt
            go_wp2_with fail
            have hb7 := bal (bal (bre w5) (.cells #[.int .u8 f.kind, .int .u64 0, .string ⟨#[]⟩, .int .u64 f.most] 40)) (.cells #[.int .u8 f.kind, .int .u64 0, .string ⟨#[]⟩, .int .u64 f.most] 40)
            have hr7 := hr5.keep hb7
            have hy7 := hy5'.below hb7
            have hb37 := hbr5.trans (hb7.mono hbr5.size)
            have hs7 := Nat.le_trans hs5 hb7.size
            have hG := (hb7.block gr hlt5).trans (Array.getElem?_eq_some_iff.2 ⟨hlt5, rfl⟩)
            have hG9 : ((w5.alloc (.cells #[.int .u8 f.kind, .int .u64 0, .string ⟨#[]⟩, .int .u64 f.most] 40)).alloc (.cells #[.int .u8 f.kind, .int .u64 0, .string ⟨#[]⟩, .int .u64 f.most] 40)).heap[w5.heap.size]? = some (.cells #[.int .u8 f.kind, .int .u64 0, .string ⟨#[]⟩, .int .u64 f.most] 40) := ((bal (bre _) (.cells #[.int .u8 f.kind, .int .u64 0, .string ⟨#[]⟩, .int .u64 f.most] 40)).block w5.heap.size (by simp)).trans (heap_alloc_new w5 (.cells #[.int .u8 f.kind, .int .u64 0, .string ⟨#[]⟩, .int .u64 f.most] 40))
            have hG10 : ((w5.alloc (.cells #[.int .u8 f.kind, .int .u64 0, .string ⟨#[]⟩, .int .u64 f.most] 40)).alloc (.cells #[.int .u8 f.kind, .int .u64 0, .string ⟨#[]⟩, .int .u64 f.most] 40)).heap[w5.heap.size + 1]? = some (.cells #[.int .u8 f.kind, .int .u64 0, .string ⟨#[]⟩, .int .u64 f.most] 40) := by
              have h := heap_alloc_new (w5.alloc (.cells #[.int .u8 f.kind, .int .u64 0, .string ⟨#[]⟩, .int .u64 f.most] 40)) (.cells #[.int .u8 f.kind, .int .u64 0, .string ⟨#[]⟩, .int .u64 f.most] 40); simpa using h
            have hs2 : ((w5.alloc (.cells #[.int .u8 f.kind, .int .u64 0, .string ⟨#[]⟩, .int .u64 f.most] 40)).alloc (.cells #[.int .u8 f.kind, .int .u64 0, .string ⟨#[]⟩, .int .u64 f.most] 40)).heap.size = w5.heap.size + 2 := by simp
            generalize (w5.alloc (.cells #[.int .u8 f.kind, .int .u64 0, .string ⟨#[]⟩, .int .u64 f.most] 40)).alloc (.cells #[.int .u8 f.kind, .int .u64 0, .string ⟨#[]⟩, .int .u64 f.most] 40) = w7 at *
            refine (rtake_any u0 pl f w7 hy7 hsf.2).mono ?_
            rintro e w8 ⟨⟨u, rfl, hyu⟩, hb8⟩
            rw [HT.out, HRT.out]
            rw [HRT.out] at hyu
            have hyu5 := hyu w5 hy5'
            obtain ⟨ua, uc, rfl, hum, huc, _⟩ := id hyu5
            have hr8 := hr7.keep hb8
            have hb38 := hb37.trans (hb8.mono hb37.size)
            have hs8 := Nat.le_trans hs7 hb8.size
            obtain ⟨x0, x1, x2, x3, xf⟩ := row4 ((hb8.block w5.heap.size (by omega)).trans hG9)
            obtain ⟨y0, y1, y2, y3, yf⟩ := row4 ((hb8.block (w5.heap.size + 1) (by omega)).trans hG10)
            clear hG hG9 hG10 hb7 hr7 hy7 hb37 hs7
            have hlt8 : w5.heap.size + 1 < w8.heap.size := by have := hb8.size; omega
            have hlt9 : w5.heap.size < w8.heap.size := by omega
            clear hb8 hs2
            generalize w5.heap.size = g5 at *
            go_wp2_with fail
            have hb9 := bal (bre w8) (.cells #[.int .u8 f.kind, .int .u64 0, .string ⟨#[]⟩, .int .u64 f.most] 40)
            have hr9 := hr8.keep hb9
            have hb39 := hb38.trans (hb9.mono hb38.size)
            have hs9 := Nat.le_trans hs8 hb9.size
            have hyn : Bytes (w8.alloc (.cells #[.int .u8 f.kind, .int .u64 0, .string ⟨#[]⟩, .int .u64 f.most] 40)) (.slice none 0 0) [] := (Own8.nil 5 0 _).bytes
            generalize w8.alloc (.cells #[.int .u8 f.kind, .int .u64 0, .string ⟨#[]⟩, .int .u64 f.most] 40) = w9 at *
            refine (left_any _ r none w9 hr9).mono ?_
            rintro e w10 ⟨rfl, rfl⟩
            rw [show (Rd.left none) = 0 by rfl]
            go_wp2
            go_roundw
            case rel => exact ⟨k + 1, none, by go_num, by omega, rfl, hyn, hr9, hb39, hs9⟩
            case measure => simp [intOf]; omega
          | some rest =>
            have hcf' : FldV f' = .agg #[.int .u8 f.kind, .int .u64 f'.n, .string f'.s, .int .u64 f.most] := by unfold FldV Fld.cells; rw [hfk, hfm]
            have hT := hf'.trans hcf'
            rw [hrt] at hr5
            rw [hT]
            have HT := Lib.hid hT
            have HRT := Lib.hid hrt
            clear hT hcf' hf' hy5 hrt
            go_wp2_with fail
            have hb7 := bal (bal (bre w5) (.cells #[.int .u8 f.kind, .int .u64 f'.n, .string f'.s, .int .u64 f.most] 40)) (.cells #[.int .u8 f.kind, .int .u64 0, .string ⟨#[]⟩, .int .u64 f.most] 40)
            have hr7 := hr5.keep hb7
            have hy7 := hy5'.below hb7
            have hb37 := hbr5.trans (hb7.mono hbr5.size)
            have hs7 := Nat.le_trans hs5 hb7.size
            have hG := (hb7.block gr hlt5).trans (Array.getElem?_eq_some_iff.2 ⟨hlt5, rfl⟩)
            have hG9 : ((w5.alloc (.cells #[.int .u8 f.kind, .int .u64 f'.n, .string f'.s, .int .u64 f.most] 40)).alloc (.cells #[.int .u8 f.kind, .int .u64 0, .string ⟨#[]⟩, .int .u64 f.most] 40)).heap[w5.heap.size]? = some (.cells #[.int .u8 f.kind, .int .u64 f'.n, .string f'.s, .int .u64 f.most] 40) := ((bal (bre _) (.cells #[.int .u8 f.kind, .int .u64 0, .string ⟨#[]⟩, .int .u64 f.most] 40)).block w5.heap.size (by simp)).trans (heap_alloc_new w5 (.cells #[.int .u8 f.kind, .int .u64 f'.n, .string f'.s, .int .u64 f.most] 40))
            have hG10 : ((w5.alloc (.cells #[.int .u8 f.kind, .int .u64 f'.n, .string f'.s, .int .u64 f.most] 40)).alloc (.cells #[.int .u8 f.kind, .int .u64 0, .string ⟨#[]⟩, .int .u64 f.most] 40)).heap[w5.heap.size + 1]? = some (.cells #[.int .u8 f.kind, .int .u64 0, .string ⟨#[]⟩, .int .u64 f.most] 40) := by
              have h := heap_alloc_new (w5.alloc (.cells #[.int .u8 f.kind, .int .u64 f'.n, .string f'.s, .int .u64 f.most] 40)) (.cells #[.int .u8 f.kind, .int .u64 0, .string ⟨#[]⟩, .int .u64 f.most] 40); simpa using h
            have hs2 : ((w5.alloc (.cells #[.int .u8 f.kind, .int .u64 f'.n, .string f'.s, .int .u64 f.most] 40)).alloc (.cells #[.int .u8 f.kind, .int .u64 0, .string ⟨#[]⟩, .int .u64 f.most] 40)).heap.size = w5.heap.size + 2 := by simp
            generalize (w5.alloc (.cells #[.int .u8 f.kind, .int .u64 f'.n, .string f'.s, .int .u64 f.most] 40)).alloc (.cells #[.int .u8 f.kind, .int .u64 0, .string ⟨#[]⟩, .int .u64 f.most] 40) = w7 at *
            refine (rtake_any u0 pl f w7 hy7 hsf.2).mono ?_
            rintro e w8 ⟨⟨u, rfl, hyu⟩, hb8⟩
            rw [HT.out, HRT.out]
            rw [HRT.out] at hyu
            have hyu5 := hyu w5 hy5'
            obtain ⟨ua, uc, rfl, hum, huc, _⟩ := id hyu5
            have hr8 := hr7.keep hb8
            have hb38 := hb37.trans (hb8.mono hb37.size)
            have hs8 := Nat.le_trans hs7 hb8.size
            obtain ⟨x0, x1, x2, x3, xf⟩ := row4 ((hb8.block w5.heap.size (by omega)).trans hG9)
            obtain ⟨y0, y1, y2, y3, yf⟩ := row4 ((hb8.block (w5.heap.size + 1) (by omega)).trans hG10)
            clear hG hG9 hG10 hr7 hy7 hb37 hs7
            have hlt8 : w5.heap.size + 1 < w8.heap.size := by have := hb8.size; omega
            have hlt9 : w5.heap.size < w8.heap.size := by omega
            clear hs2
            have hy8 := (hyu5.below hb7).below hb8
            have hle35 := hbr5.size
            go_wp2_with fail
            have hb9 : Below w5.heap.size w8 (((((w8.setCell ⟨w5.heap.size + 1, 0, none⟩ (.int .u8 f.kind)).setCell ⟨w5.heap.size + 1, 1, none⟩ (.int .u64 f'.n)).setCell ⟨w5.heap.size + 1, 2, none⟩ (.string f'.s)).setCell ⟨w5.heap.size + 1, 3, none⟩ (.int .u64 f.most)).alloc (.cells #[.int .u8 f.kind, .int .u64 f'.n, .string f'.s, .int .u64 f.most] 40)) := (bset (bset (bset (bset (Below.refl _ _) _ _ _ (by omega)) _ _ _ (by omega)) _ _ _ (by omega)) _ _ _ (by omega)).alloc (by simp; omega) _
            have hr9 := hr8.low (hb9.mono hs5)
            have hb39 := hb38.trans (hb9.mono hle35)
            have hs9 := Nat.le_trans hs8 hb9.size
            have hy9 := hyu5.below ((hb7.trans (hb8.mono hb7.size)).trans hb9)
            clear hb9 hb38 hr8 hs8 hb8 hb7 x0 x1 x2 x3 xf y0 y1 y2 y3 yf b0 b1 b2 b3 fr
            generalize (((((w8.setCell ⟨w5.heap.size + 1, 0, none⟩ (.int .u8 f.kind)).setCell ⟨w5.heap.size + 1, 1, none⟩ (.int .u64 f'.n)).setCell ⟨w5.heap.size + 1, 2, none⟩ (.string f'.s)).setCell ⟨w5.heap.size + 1, 3, none⟩ (.int .u64 f.most)).alloc (.cells #[.int .u8 f.kind, .int .u64 f'.n, .string f'.s, .int .u64 f.most] 40)) = w9 at *
            refine (left_any _ r (some rest) w9 hr9).mono ?_
            rintro e w10 ⟨rfl, rfl⟩
            rw [show (Rd.left (some rest)) = rest.length by rfl]
            go_wp2
            go_roundw
            case rel => exact ⟨k + 1, some rest, by go_num, by omega, rfl, hy9, hr9, hb39, hs9⟩
            case measure => simp [intOf]; omega
    · have e : k = L.length := by omega
      subst e
      have hend : ∃ a c, u0 = .slice a (o.getD []).length c ∧ (o.getD []).length ≤ maxLen ∧ (o.getD []).length ≤ c := by
        obtain ⟨a, c, h, h1, h2, _⟩ := hyp
        exact ⟨a, c, h, h1, h2⟩
      obtain ⟨ua, uc, rfl, hu1, hu2⟩ := hend
      clear hyp
      rcases o with _ | (_ | ⟨x, t⟩)
      all_goals
        go_wp2_with (go_at_call 20; refine (done_any _ r _ wr hro).mono ?_; rintro e w9 ⟨rfl, rfl⟩)
        go_ret
        exact ⟨rfl, hb123.trans (hbr.mono hb123.size)⟩
end Go.Proofs.Ytddhnenlfdpomaa
