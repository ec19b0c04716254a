/- Walk: an operation in words, whatever the decimals are. -/
import Derived.Test.YtminfdlhbecnhaaGreatDoorOpRight
namespace Go.Proofs.YtminfdlhbecnhaaGreatDoor
open Go.RowKit

theorem rowStr : RowTy Tryz.prog 57 9 1 16 := RowTy.mk' (z := .string ByteArray.empty) Tryz.underlying57 (by kernel_rfl) rfl (by omega)

def OwnStrs (base : Nat) (w : World) (v : Value) (ls : List (List UInt8)) : Prop := w.ownsRow base 9 1 v ls.length (ls.map strV)

theorem strs_lit (w : World) (l : List UInt8) : OwnStrs w.heap.size (w.alloc (.cells #[strV l] 9)) (.slice (some ⟨w.heap.size, 0, none⟩) 1 1) [l] :=
  ⟨rfl, .inr ⟨w.heap.size, 1, #[strV l], rfl, Nat.le_refl _, heap_alloc_new w _, Nat.le_refl _, by decide, rfl, rfl⟩⟩

theorem OwnStrs.open {base : Nat} {w : World} {v : Value} {ls : List (List UInt8)} (h : OwnStrs base w v ls) (hne : ls ≠ []) :
    ∃ bk c, v = .slice (some ⟨bk, 0, none⟩) ls.length c ∧ ls.length ≤ c ∧ bk < w.heap.size ∧ ∀ (j : Nat) x, (ls.map mk8)[j]? = some x → w.cell? ⟨bk, 0 + j, none⟩ = some (.string x) := by
  obtain ⟨-, ⟨-, h0⟩ | ⟨g, cap, cur, rfl, -, hg, hc, -, -, ht⟩⟩ := h
  · exact absurd (List.eq_nil_of_length_eq_zero h0) hne
  · refine ⟨g, cap, rfl, hc, (Array.getElem?_eq_some_iff.1 hg).1, fun j x hx => ?_⟩
    have hj : j < ls.length := by
      have := (List.getElem?_eq_some_iff.1 hx).1
      simpa using this
    rw [Nat.zero_add, cell_row hg, ← Array.getElem?_toList]
    have h2 : (cur.toList.take (ls.length * 1))[j]? = cur.toList[j]? := by rw [List.getElem?_take, if_pos (by omega)]
    rw [← h2, ht]
    rw [List.getElem?_map] at hx ⊢
    cases hl : ls[j]? with
    | none => rw [hl] at hx; cases hx
    | some l =>
      rw [hl] at hx
      cases hx
      rfl

theorem own_base {base base' : Nat} {w : World} {v : Value} {ls : List (List UInt8)} (h : OwnStrs base w v ls) (hb : base' ≤ base) : OwnStrs base' w v ls := by
  obtain ⟨h1, h2 | ⟨g, cap, cur, h3, h4, h5⟩⟩ := h
  · exact ⟨h1, .inl h2⟩
  · exact ⟨h1, .inr ⟨g, cap, cur, h3, Nat.le_trans hb h4, h5⟩⟩

theorem map_mk8 (l : List (List UInt8)) : (l.map mk8).map (fun s => s.data.toList) = l := by
  rw [List.map_map]
  conv => rhs; rw [← List.map_id l]
  exact List.map_congr_left fun l _ => rfl

def idsOf (a b : Nat) (dec : Nat → List UInt8) : Nat → List (List UInt8)
  | 0 => []
  | 1 => if a ≠ 0 then [dec a] else []
  | _ => (if a ≠ 0 then [dec a] else []) ++ (if b ≠ 0 then [dec b] else [])

/-- the parts of an operation's words -/
def partsTxt (k a b : Nat) (nm : ByteArray) (dec : Nat → List UInt8) : List (List UInt8) := (wordOf k :: idsOf a b dec 2) ++ (if nm.size ≠ 0 then [nm.data.toList] else [])
def textOf (k a b : Nat) (nm : ByteArray) (dec : Nat → List UInt8) : List UInt8 := if rightB k a b nm then Lib.join (partsTxt k a b nm dec) [32] else []

theorem ids_step (a b k : Nat) (dec : Nat → List UInt8) (hk : k < 2) : idsOf a b dec (k + 1) = idsOf a b dec k ++ (if (if k = 0 then a else b) ≠ 0 then [dec (if k = 0 then a else b)] else []) := by
  rcases (by omega : k = 0 ∨ k = 1) with rfl | rfl
  · simp [idsOf]
  · simp [idsOf]

structure TextRel (w : World) (n1 n17 k a b : Nat) (nm : ByteArray) (dec : Nat → List UInt8) (j : Nat) (v : Value) (wr : World) : Prop where
  own : OwnStrs w.heap.size wr v (wordOf k :: idsOf a b dec j)
  r1 : wr.heap[n1]? = some (.cells #[.int .u8 k, .int .u64 a, .int .u64 b, .string nm] 25 (0, 0))
  r17 : wr.heap[n17]? = some (.cells #[.int .u64 a, .int .u64 b] 23 (0, 0))
  below : Below w.heap.size w wr

set_option linter.unusedSimpArgs false in
set_option maxRecDepth 20000 in
set_option maxHeartbeats 3200000 in
theorem text_any (k a b : Nat) (nm : ByteArray) (dec : Nat → List UInt8) (hk : k < 256) (hs : nm.size ≤ 9223372036854775807) (w : World) (hsp : Sp w)
    (hdec : ∀ u w', (u = a ∨ u = b) → Below w.heap.size w w' → Calls Tryz.prog 28 #[.int .u64 u, .int .i64 10] w' fun e w'' => e = .returned (strV (dec u)) ∧ Below w'.heap.size w' w'')
    (hlen : rightB k a b nm = true → (Lib.join (partsTxt k a b nm dec) [32]).length ≤ 140737488355328) :
    Calls Tryz.prog 11 #[.agg #[.int .u8 k, .int .u64 a, .int .u64 b, .string nm]] w fun e w' => e = .returned (strV (textOf k a b nm dec)) ∧ Below w.heap.size w w' := by
  obtain ⟨x, hx⟩ : ∃ x, x = textOf k a b nm dec := ⟨_, rfl⟩
  rw [← hx]
  have HX := Lib.hid hx
  have HLEN := Lib.hid hlen
  have HDEC := Lib.hid hdec
  have HK := Lib.hid hk
  have HS := Lib.hid hs
  clear hx hdec hk hs hlen
  go_enter Tryz.func11, Tryz.ntmps11
  go_upto_region 1 with fail
  have hb0 := bal (bre w) (.cells #[.int .u8 k, .int .u64 a, .int .u64 b, .string nm] 25)
  have hr0 := heap_alloc_new w (.cells #[.int .u8 k, .int .u64 a, .int .u64 b, .string nm] 25)
  generalize w.alloc (.cells #[.int .u8 k, .int .u64 a, .int .u64 b, .string nm] 25) = W at *
  obtain ⟨n1, hn1⟩ : ∃ n, n = w.heap.size := ⟨_, rfl⟩
  rw [← hn1] at hr0 ⊢
  have HB0 := Lib.hid hb0
  have HR0 := Lib.hid hr0
  have HSP := Lib.hid hsp
  clear hb0 hr0 hn1 hsp
  have c0 := cell_of_row W n1 0 _ _ _ HR0.out
  have c1 := cell_of_row W n1 1 _ _ _ HR0.out
  have c2 := cell_of_row W n1 2 _ _ _ HR0.out
  have c3 := cell_of_row W n1 3 _ _ _ HR0.out
  go_wp2_with fail
  refine (right_any k a b nm HK.out HS.out W (HSP.out.below HB0.out)).mono ?_
  rintro e w1 ⟨rfl, hb1⟩
  have HB1 := Lib.hid (btr HB0.out hb1)
  have HR1 : Hid (w1.heap[n1]? = some (.cells #[.int .u8 k, .int .u64 a, .int .u64 b, .string nm] 25 (0, 0))) := Lib.hid ((hb1.block n1 (Array.getElem?_eq_some_iff.1 HR0.out).1).trans HR0.out)
  clear hb1 HB0 HR0 c0 c1 c2 c3
  cases hrt : rightB k a b nm with
  | false =>
    have hr : x = [] := by rw [HX.out]; unfold textOf; rw [hrt]; rfl
    subst hr
    clear hrt
    go_wp2_with fail
    go_ret
    exact ⟨rfl, HB1.out⟩
  | true =>
    have hr : x = Lib.join (partsTxt k a b nm dec) [32] := by rw [HX.out]; unfold textOf; rw [hrt]; rfl
    have HXR := Lib.hid hr
    have HL := Lib.hid (HLEN.out hrt)
    clear hr hrt HX HLEN
    have c0 := cell_of_row w1 n1 0 _ _ _ HR1.out
    go_wp2_with fail
    refine (word_any k HK.out w1 (HSP.out.below HB1.out)).mono ?_
    rintro e w2 ⟨rfl, hb2⟩
    have HB2 := Lib.hid (btr HB1.out hb2)
    have HR2 : Hid (w2.heap[n1]? = some (.cells #[.int .u8 k, .int .u64 a, .int .u64 b, .string nm] 25 (0, 0))) := Lib.hid ((hb2.block n1 (Array.getElem?_eq_some_iff.1 HR1.out).1).trans HR1.out)
    clear hb2 HB1 HR1 c0
    rw [strV_mk]
    go_upto_region 4 with fail
    have hb3 := bal (bre w2) (.cells #[.string (mk8 (wordOf k))] 9)
    have ho3 : OwnStrs w2.heap.size _ (.slice (some ⟨w2.heap.size, 0, none⟩) 1 1) [wordOf k] := strs_lit w2 (wordOf k)
    rw [strV_mk] at ho3
    generalize w2.alloc (.cells #[.string (mk8 (wordOf k))] 9) = w3 at *
    obtain ⟨n12, hn12⟩ : ∃ n, n = w2.heap.size := ⟨_, rfl⟩
    rw [← hn12] at ho3 ⊢
    have HO3 : Hid (OwnStrs w.heap.size w3 (.slice (some ⟨n12, 0, none⟩) 1 1) [wordOf k]) := Lib.hid (own_base ho3 (by rw [hn12]; exact HB2.out.size))
    have HB3 := Lib.hid (btr HB2.out hb3)
    have HR3 : Hid (w3.heap[n1]? = some (.cells #[.int .u8 k, .int .u64 a, .int .u64 b, .string nm] 25 (0, 0))) := Lib.hid ((hb3.block n1 (Array.getElem?_eq_some_iff.1 HR2.out).1).trans HR2.out)
    clear hb3 ho3 hn12 HB2 HR2
    have c1 := cell_of_row w3 n1 1 _ _ _ HR3.out
    have c2 := cell_of_row w3 n1 2 _ _ _ HR3.out
    go_wp2_with fail
    have hb4 := bal (bre w3) (.cells #[.int .u64 a, .int .u64 b] 23)
    have hr4 := heap_alloc_new w3 (.cells #[.int .u64 a, .int .u64 b] 23)
    have ho4 := World.ownsRow.alloc HO3.out (.cells #[.int .u64 a, .int .u64 b] 23)
    generalize w3.alloc (.cells #[.int .u64 a, .int .u64 b] 23) = w4 at *
    obtain ⟨n17, hn17⟩ : ∃ n, n = w3.heap.size := ⟨_, rfl⟩
    rw [← hn17] at hr4 ⊢
    have HREL : Hid (TextRel w n1 n17 k a b nm dec 0 (.slice (some ⟨n12, 0, none⟩) 1 1) w4) := Lib.hid ⟨ho4, (hb4.block n1 (Array.getElem?_eq_some_iff.1 HR3.out).1).trans HR3.out, hr4, btr HB3.out hb4⟩
    clear hb4 hr4 ho4 hn17 c1 c2 HB3 HR3 HO3
    go_loopw [3, 5, 19] (fun v _ i wr => ∃ j : Nat, j ≤ 2 ∧ i = .int .i64 j ∧ TextRel w n1 n17 k a b nm dec j v wr) (fun _ _ i _ => 2 - (intOf i).toNat)
    case atStart => exact ⟨0, by omega, rfl, HREL.out⟩
    case round =>
      obtain ⟨j, hj, rfl, hr⟩ := hrel
      obtain ⟨hown, hr1, hr17, hbl⟩ := hr
      have HR1 := Lib.hid hr1
      have HR17 := Lib.hid hr17
      have HBL := Lib.hid hbl
      clear hr1 hr17 hbl HREL
      obtain ⟨ls, hls⟩ : ∃ ls, ls = wordOf k :: idsOf a b dec j := ⟨_, rfl⟩
      rw [← hls] at hown
      have hll : ls.length ≤ 3 := by
        rw [hls, List.length_cons]
        rcases (by omega : j = 0 ∨ j = 1 ∨ j = 2) with rfl | rfl | rfl
        · show 0 + 1 ≤ 3; decide
        · show (if a ≠ 0 then [dec a] else []).length + 1 ≤ 3; split <;> simp
        · show ((if a ≠ 0 then [dec a] else []) ++ (if b ≠ 0 then [dec b] else [])).length + 1 ≤ 3
          rw [List.length_append]
          split <;> split <;> simp
      have HOWN := Lib.hid hown
      by_cases hlt : j < 2
      · obtain ⟨id, hid, hcell⟩ : ∃ id, id = (if j = 0 then a else b) ∧ wr.cell? ⟨n17, j, none⟩ = some (.int .u64 id) := by
          rcases (by omega : j = 0 ∨ j = 1) with rfl | rfl
          · exact ⟨a, rfl, cell_of_row wr n17 0 _ _ _ HR17.out⟩
          · exact ⟨b, rfl, cell_of_row wr n17 1 _ _ _ HR17.out⟩
        have hab : id = a ∨ id = b := by rw [hid]; split <;> simp
        have hstep := ids_step a b j dec hlt
        rw [← hid] at hstep
        have HAB := Lib.hid hab
        by_cases hz : id = 0
        · have hn : TextRel w n1 n17 k a b nm dec (j + 1) u3 wr := ⟨by rw [hstep, if_neg (fun h => h hz), List.append_nil, ← hls]; exact HOWN.out, HR1.out, HR17.out, HBL.out⟩
          have HN := Lib.hid hn
          subst hz
          clear hn hid hab hstep hls hown hll
          go_wp2_with fail
          go_roundw
          case rel => exact ⟨j + 1, by omega, by go_num, HN.out⟩
          case measure => simp [intOf]; try omega
        · have hd1 : ((id : Int) == 0) = false := beq_false_of_ne (by omega)
          have hd2 : decide ((id : Int) = 0) = false := decide_eq_false (by omega)
          have hd3 : ((id : Int) != 0) = true := by simp; omega
          have hnx : wordOf k :: idsOf a b dec (j + 1) = ls ++ [dec id] := by rw [hstep, if_pos hz, hls, List.cons_append]
          have HNX := Lib.hid hnx
          clear hid hab hstep hls hown hz hnx
          go_wp2_with fail
          refine (HDEC.out id wr HAB.out HBL.out).mono ?_
          rintro e w5 ⟨rfl, hb5⟩
          rw [strV_mk]
          have ho5 := own_only HOWN.out (Only.of_below hb5 fun _ => False) (fun _ _ h => h)
          have HB5 := Lib.hid (HBL.out.trans (hb5.mono HBL.out.size))
          have HR51 : Hid (w5.heap[n1]? = some (.cells #[.int .u8 k, .int .u64 a, .int .u64 b, .string nm] 25 (0, 0))) := Lib.hid ((hb5.block n1 (Array.getElem?_eq_some_iff.1 HR1.out).1).trans HR1.out)
          have HR57 : Hid (w5.heap[n17]? = some (.cells #[.int .u64 a, .int .u64 b] 23 (0, 0))) := Lib.hid ((hb5.block n17 (Array.getElem?_eq_some_iff.1 HR17.out).1).trans HR17.out)
          have HO5 := Lib.hid ho5
          clear ho5 hb5 hcell HOWN HBL HR1 HR17
          go_wp2_with (at_builtin; refine wpList_app rfl _ _ 57 9 1 16 rowStr rfl w.heap.size _ ls.length (ls.map strV) rfl (World.ownsRow.alloc HO5.out _) _ 1 1 [.string (mk8 (dec id))] rfl rfl (lies_one _ _ _) (Nat.le_refl _) (fun h => by cases h) (by simp [Value.oneCell']) (by unfold maxLen; omega) (by omega) (by exact (HB5.out.alloc HB5.out.size _).size) ?_; intro v' w6 h6 hg6 hb6)
          have hw6 : OwnStrs w.heap.size w6 v' (ls ++ [dec id]) := by unfold OwnStrs; rw [List.length_append, List.map_append]; exact h6
          rw [← HNX.out] at hw6
          have hb1 := bal (bre w5) (.cells #[.string (mk8 (dec id))] 9)
          have hk1 := (hb1.block n1 (Array.getElem?_eq_some_iff.1 HR51.out).1).trans HR51.out
          have hk7 := (hb1.block n17 (Array.getElem?_eq_some_iff.1 HR57.out).1).trans HR57.out
          have hoA := World.ownsRow.alloc HO5.out (.cells #[.string (mk8 (dec id))] 9)
          have hn : TextRel w n1 n17 k a b nm dec (j + 1) v' w6 := ⟨hw6, (hg6.block n1 (Array.getElem?_eq_some_iff.1 hk1).1 (fun e => own_ne hoA hk1 (by decide) e.symm)).trans hk1, (hg6.block n17 (Array.getElem?_eq_some_iff.1 hk7).1 (fun e => own_ne hoA hk7 (by decide) e.symm)).trans hk7, (HB5.out.alloc HB5.out.size _).trans hb6⟩
          have HN := Lib.hid hn
          clear hn hw6 hb1 hk1 hk7 hoA h6 hg6 hb6
          go_wp2_with fail
          go_roundw
          case rel => exact ⟨j + 1, by omega, by go_num, HN.out⟩
          case measure => simp [intOf]; try omega
      · have e2 : j = 2 := by omega
        subst e2
        have c3 := cell_of_row wr n1 3 _ _ _ HR1.out
        have hse := str_isEmpty nm
        obtain ⟨l2, hl2⟩ : ∃ l, l = partsTxt k a b nm dec := ⟨_, rfl⟩
        have hl2' : l2 = ls ++ (if nm.size ≠ 0 then [nm.data.toList] else []) := by rw [hl2, hls]; rfl
        have hne2 : l2 ≠ [] := by rw [hl2', hls]; simp
        have hlen2 : l2.length ≤ 4 := by rw [hl2', List.length_append]; split <;> simp <;> omega
        have hxl := HXR.out
        have hL := HL.out
        rw [← hl2] at hxl hL
        have HXL := Lib.hid hxl
        have HL2 := Lib.hid hL
        have HL2' := Lib.hid hl2'
        have HNE2 := Lib.hid hne2
        have HLEN2 := Lib.hid hlen2
        clear hl2 hl2' hne2 hlen2 hxl hL hls hlt hj hown
        by_cases hz : nm.size = 0
        · rw [decide_eq_true hz] at hse
          have hl := HL2'.out
          rw [if_neg (fun h => h hz), List.append_nil] at hl
          have hw6 := HOWN.out
          rw [← hl] at hw6
          have HW6 := Lib.hid hw6
          have HB6 := Lib.hid HBL.out
          clear hl hz hw6 HOWN HBL HR1 HR17 HL2'
          obtain ⟨bk, cc, rfl, hcap, hbk, hcells⟩ := HW6.out.open HNE2.out
          have HC := Lib.hid hcells
          have HCAP := Lib.hid hcap
          have HBK := Lib.hid hbk
          clear hcap hbk hcells
          go_wp2_with fail
          have hmm : (l2.map mk8).map (fun s => s.data.toList) = l2 := map_mk8 l2
          have hjn := join_any bk cc l2.length (l2.map mk8) ⟨#[32]⟩ wr (List.length_map _) HC.out HBK.out (by rw [List.length_map]; have := HLEN2.out; omega) (by rw [List.length_map]; exact HCAP.out) (by rw [hmm]; exact HL2.out)
          rw [hmm] at hjn
          refine hjn.mono ?_
          rintro e w8 ⟨rfl, hb8⟩
          have HB8 := Lib.hid (HB6.out.trans (hb8.mono HB6.out.size))
          clear hjn hmm hb8
          rw [strV_mk]
          go_wp2_with fail
          go_ret
          exact ⟨by rw [HXL.out]; rfl, HB8.out⟩
        · rw [decide_eq_false hz] at hse
          have hl := HL2'.out
          rw [if_pos hz] at hl
          have HLL := Lib.hid hl
          clear hl hz
          go_upto_region 12 with (at_builtin; refine wpList_app rfl _ _ 57 9 1 16 rowStr rfl w.heap.size _ ls.length (ls.map strV) rfl (World.ownsRow.alloc HOWN.out _) _ 1 1 [.string nm] rfl rfl (lies_one _ _ _) (Nat.le_refl _) (fun h => by cases h) (by simp [Value.oneCell']) (by unfold maxLen; omega) (by omega) (by exact (HBL.out.alloc HBL.out.size _).size) ?_; intro v' w6 h6 hg6 hb6)
          have hw6 : OwnStrs w.heap.size w6 v' (ls ++ [nm.data.toList]) := by unfold OwnStrs; rw [List.length_append, List.map_append]; exact h6
          rw [← HLL.out] at hw6
          have HW6 := Lib.hid hw6
          have HB6 := Lib.hid ((HBL.out.alloc HBL.out.size _).trans hb6)
          clear hw6 h6 hg6 hb6 hse c3 HOWN HBL HR1 HR17 HL2' HLL
          obtain ⟨bk, cc, rfl, hcap, hbk, hcells⟩ := HW6.out.open HNE2.out
          have HC := Lib.hid hcells
          have HCAP := Lib.hid hcap
          have HBK := Lib.hid hbk
          clear hcap hbk hcells
          go_wp2_with fail
          have hmm : (l2.map mk8).map (fun s => s.data.toList) = l2 := map_mk8 l2
          have hjn := join_any bk cc l2.length (l2.map mk8) ⟨#[32]⟩ w6 (List.length_map _) HC.out HBK.out (by rw [List.length_map]; have := HLEN2.out; omega) (by rw [List.length_map]; exact HCAP.out) (by rw [hmm]; exact HL2.out)
          rw [hmm] at hjn
          refine hjn.mono ?_
          rintro e w8 ⟨rfl, hb8⟩
          have HB8 := Lib.hid (HB6.out.trans (hb8.mono HB6.out.size))
          clear hjn hmm hb8
          rw [strV_mk]
          go_wp2_with fail
          go_ret
          exact ⟨by rw [HXL.out]; rfl, HB8.out⟩
end Go.Proofs.YtminfdlhbecnhaaGreatDoor
