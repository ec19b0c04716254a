/- Walk: an operation's bytes. -/
import Derived.Test.YtminfdlhbecnhaaGreatDoorOpText
import Derived.Test.YtminfdlhbecnhaaGreatDoorWRest
namespace Go.Proofs.YtminfdlhbecnhaaGreatDoor
open Go.RowKit

/-- an operation's bytes -/
def bytesOf (k a b : Nat) (nm : ByteArray) : List UInt8 := if rightB k a b nm then [UInt8.ofNat k] ++ Vi.varint a ++ Vi.varint b ++ (Vi.varint nm.size ++ nm.data.toList) else []

theorem right_name {k a b : Nat} {nm : ByteArray} (h : rightB k a b nm = true) : nm.size ≤ 64 := by
  unfold rightB at h
  simp only [Bool.and_eq_true, decide_eq_true_eq, beq_iff_eq, Bool.or_eq_true] at h
  obtain ⟨_, _, _, _, _, h6⟩ := h
  rcases h6 with h | h
  · omega
  · unfold nameB shapedB at h
    simp only [Bool.and_eq_true, decide_eq_true_eq] at h
    have := h.1.1.1.2
    rwa [str_len] at this

set_option linter.unusedSimpArgs false in
set_option maxRecDepth 20000 in
set_option maxHeartbeats 3200000 in
theorem obytes_any (k a b : Nat) (nm : ByteArray) (hk : k < 256) (ha : a < 18446744073709551616) (hb : b < 18446744073709551616) (hs : nm.size ≤ 9223372036854775807) (w : World) (hsp : Sp w) :
    Calls Tryz.prog 10 #[.agg #[.int .u8 k, .int .u64 a, .int .u64 b, .string nm]] w fun e w' => ∃ v', e = .returned v' ∧ Own8 5 w.heap.size w' v' (bytesOf k a b nm) ∧ Below w.heap.size w w' := by
  obtain ⟨x, hx⟩ : ∃ x, x = bytesOf k a b nm := ⟨_, rfl⟩
  rw [← hx]
  have HX := Lib.hid hx
  have HA := Lib.hid ha
  have HBB := Lib.hid hb
  have HK := Lib.hid hk
  have HS := Lib.hid hs
  clear hx hk hs ha hb
  go_enter Tryz.func10, Tryz.ntmps10
  go_upto_region 1 with fail
  have hb0 := bal (bre w) (.cells #[.int .u8 k, .int .u64 a, .int .u64 b, .string nm] 25)
  have hr0 := heap_alloc_new w (.cells #[.int .u8 k, .int .u64 a, .int .u64 b, .string nm] 25)
  generalize w.alloc (.cells #[.int .u8 k, .int .u64 a, .int .u64 b, .string nm] 25) = W at *
  obtain ⟨n1, hn1⟩ : ∃ n, n = w.heap.size := ⟨_, rfl⟩
  rw [← hn1] at hr0 ⊢
  have HB0 := Lib.hid hb0
  have HR0 := Lib.hid hr0
  have HSP := Lib.hid hsp
  have HN1 : Hid (w.heap.size ≤ n1) := Lib.hid (by omega)
  clear hb0 hr0 hn1 hsp
  have c0 := cell_of_row W n1 0 _ _ _ HR0.out
  have c1 := cell_of_row W n1 1 _ _ _ HR0.out
  have c2 := cell_of_row W n1 2 _ _ _ HR0.out
  have c3 := cell_of_row W n1 3 _ _ _ HR0.out
  go_wp2_with fail
  refine (right_any k a b nm HK.out HS.out W (HSP.out.below HB0.out)).mono ?_
  rintro e w1 ⟨rfl, hb1⟩
  have HB1 := Lib.hid (btr HB0.out hb1)
  have HR1 : Hid (w1.heap[n1]? = some (.cells #[.int .u8 k, .int .u64 a, .int .u64 b, .string nm] 25 (0, 0))) := Lib.hid ((hb1.block n1 (Array.getElem?_eq_some_iff.1 HR0.out).1).trans HR0.out)
  clear hb1 HB0 HR0 c0 c1 c2 c3
  cases hrt : rightB k a b nm with
  | false =>
    have hr : x = [] := by rw [HX.out]; unfold bytesOf; rw [hrt]; rfl
    subst hr
    clear hrt
    go_wp2_with fail
    go_ret
    exact ⟨_, rfl, Own8.nil _ _ _, HB1.out⟩
  | true =>
    have hr : x = [UInt8.ofNat k] ++ Vi.varint a ++ Vi.varint b ++ (Vi.varint nm.size ++ nm.data.toList) := by rw [HX.out]; unfold bytesOf; rw [hrt]; rfl
    have HXR := Lib.hid hr
    have HN64 := Lib.hid (right_name hrt)
    clear hr hrt HX
    go_upto_region 4 with fail
    have hb2 := bal (bre w1) (.cells #[.slice none 0 0] 52)
    have hr2 := heap_alloc_new w1 (.cells #[.slice none 0 0] 52)
    generalize w1.alloc (.cells #[.slice none 0 0] 52) = w2 at *
    obtain ⟨g, hg⟩ : ∃ n, n = w1.heap.size := ⟨_, rfl⟩
    rw [← hg] at hr2 ⊢
    have hlt1 := (Array.getElem?_eq_some_iff.1 HR1.out).1
    have hne : n1 ≠ g := by omega
    have HB2 := Lib.hid (btr HB1.out hb2)
    have HR2 : Hid (w2.heap[n1]? = some (.cells #[.int .u8 k, .int .u64 a, .int .u64 b, .string nm] 25 (0, 0))) := Lib.hid ((hb2.block n1 hlt1).trans HR1.out)
    have HG : Hid (w.heap.size ≤ g) := Lib.hid (by have := HB1.out.size; omega)
    have hsb : slotBlock w2 g = none := slotBlock_at hr2
    have HW0 : Hid (WriterAt w.heap.size w2 g []) := Lib.hid ⟨_, hr2, Own8.nil _ _ _⟩
    have HSB : Hid (∀ w', Grew w2 w' g → (w'.cell? ⟨n1, 0, none⟩ = some (.int .u8 k) ∧ w'.cell? ⟨n1, 1, none⟩ = some (.int .u64 a) ∧ w'.cell? ⟨n1, 2, none⟩ = some (.int .u64 b) ∧ w'.cell? ⟨n1, 3, none⟩ = some (.string nm))) := Lib.hid (fun w' hgr => by
      have h := (hgr.only.block n1 (Nat.lt_of_lt_of_le hlt1 hb2.size) (fun h => by
        rcases h with h | h
        · exact hne h
        · rw [hsb] at h; cases h)).trans HR2.out
      exact ⟨cell_of_row w' n1 0 _ _ _ h, cell_of_row w' n1 1 _ _ _ h, cell_of_row w' n1 2 _ _ _ h, cell_of_row w' n1 3 _ _ _ h⟩)
    have HOUT : Hid (∀ w', Grew w2 w' g → Below w.heap.size w w') := Lib.hid (fun w' hgr => HB2.out.trans (hgr.only.below _ HB2.out.size (fun i hi h => by
        rcases h with h | h
        · have := HG.out; omega
        · rw [hsb] at h; cases h)))
    have hkn : ((k : Nat) : Int) = ((UInt8.ofNat k).toNat : Int) := by rw [UInt8.toNat_ofNat_of_lt' (by have := HK.out; simp [UInt8.size]; omega)]
    have HKN := Lib.hid hkn
    have hg0 : Grew w2 w2.drew g := Grew.of_below (bdr (bre w2)) (Array.getElem?_eq_some_iff.1 hr2).1
    have HG0 := Lib.hid hg0
    have HW1 : Hid (WriterAt w.heap.size w2.drew g []) := Lib.hid (HW0.out.below (bdr (bre w2)))
    clear hb2 hr2 hg hlt1 hsb hkn hg0
    refine region_anyZ (z := 11) (S := fun w' => (w'.cell? ⟨n1, 0, none⟩ = some (.int .u8 k) ∧ w'.cell? ⟨n1, 1, none⟩ = some (.int .u64 a) ∧ w'.cell? ⟨n1, 2, none⟩ = some (.int .u64 b) ∧ w'.cell? ⟨n1, 3, none⟩ = some (.string nm))) (by kernel_rfl) ?_
    refine anyZ_begin (fun hcl0 => ?_)
    refine anyZ_held (by exact HSB.out _ HG0.out) (fun hHeld => ?_)
    -- 0: Op.fieldAddr 36 (Operand.tmp 1) 0
    refine' anyZ_pure (i := 0) (v := _) rfl (by rfl) (by kernel_rfl) (by kernel_rfl) (by kernel_rfl) hcl0 (fun _ _ _ h => h) (Or.inl ⟨by rfl, fun w _ => ?h1⟩) (fun _ => hHeld) (fun hcl1 => ?r1)
    case h1 => (simp only [List.getElem_toArray, List.getElem_cons_zero]; first | (go_simp; with_reducible rfl) | (go_simp; done) | rfl)
    simp only [List.getElem_toArray, List.getElem_cons_zero, Act.put, List.setIfInBounds_toArray, List.set_cons_zero, List.set_cons_succ]
    -- 1: Op.load 5 (Operand.tmp 7)
    refine' anyZ_take (i := 1) (v := _) rfl (by rfl) (by kernel_rfl) (by kernel_rfl) (by kernel_rfl) hcl1 12 (by kernel_rfl) (by kernel_rfl) (fun _ _ _ h => h) (Or.inl ⟨by rfl, fun w hSw => ?h2⟩) hHeld (fun hcl2 => ?r2)
    case h2 => (simp only [List.getElem_toArray, List.getElem_cons_succ, List.getElem_cons_zero]; obtain ⟨hS1, hS2, hS3, hS4⟩ := hSw; first | (go_simp; with_reducible rfl) | (go_simp; done) | rfl)
    simp only [List.getElem_toArray, List.getElem_cons_succ, List.getElem_cons_zero, Act.put, List.setIfInBounds_toArray, List.set_cons_zero, List.set_cons_succ]
    -- 3: Op.fieldAddr 36 (Operand.tmp 1) 1
    refine' anyZ_pure (i := 3) (v := _) rfl (by rfl) (by kernel_rfl) (by kernel_rfl) (by kernel_rfl) hcl2 (fun _ _ _ h => h) (Or.inl ⟨by rfl, fun w _ => ?h3⟩) (fun _ => hHeld) (fun hcl3 => ?r3)
    case h3 => (simp only [List.getElem_toArray, List.getElem_cons_succ, List.getElem_cons_zero]; first | (go_simp; with_reducible rfl) | (go_simp; done) | rfl)
    simp only [List.getElem_toArray, List.getElem_cons_succ, List.getElem_cons_zero, Act.put, List.setIfInBounds_toArray, List.set_cons_zero, List.set_cons_succ]
    -- 4: Op.load 32 (Operand.tmp 10)
    refine' anyZ_take (i := 4) (v := _) rfl (by rfl) (by kernel_rfl) (by kernel_rfl) (by kernel_rfl) hcl3 12 (by kernel_rfl) (by kernel_rfl) (fun _ _ _ h => h) (Or.inl ⟨by rfl, fun w hSw => ?h4⟩) hHeld (fun hcl4 => ?r4)
    case h4 => (simp only [List.getElem_toArray, List.getElem_cons_succ, List.getElem_cons_zero]; obtain ⟨hS1, hS2, hS3, hS4⟩ := hSw; first | (go_simp; with_reducible rfl) | (go_simp; done) | rfl)
    simp only [List.getElem_toArray, List.getElem_cons_succ, List.getElem_cons_zero, Act.put, List.setIfInBounds_toArray, List.set_cons_zero, List.set_cons_succ]
    -- 6: Op.fieldAddr 36 (Operand.tmp 1) 2
    refine' anyZ_pure (i := 6) (v := _) rfl (by rfl) (by kernel_rfl) (by kernel_rfl) (by kernel_rfl) hcl4 (fun _ _ _ h => h) (Or.inl ⟨by rfl, fun w _ => ?h5⟩) (fun _ => hHeld) (fun hcl5 => ?r5)
    case h5 => (simp only [List.getElem_toArray, List.getElem_cons_succ, List.getElem_cons_zero]; first | (go_simp; with_reducible rfl) | (go_simp; done) | rfl)
    simp only [List.getElem_toArray, List.getElem_cons_succ, List.getElem_cons_zero, Act.put, List.setIfInBounds_toArray, List.set_cons_zero, List.set_cons_succ]
    -- 7: Op.load 32 (Operand.tmp 13)
    refine' anyZ_take (i := 7) (v := _) rfl (by rfl) (by kernel_rfl) (by kernel_rfl) (by kernel_rfl) hcl5 12 (by kernel_rfl) (by kernel_rfl) (fun _ _ _ h => h) (Or.inl ⟨by rfl, fun w hSw => ?h6⟩) hHeld (fun hcl6 => ?r6)
    case h6 => (simp only [List.getElem_toArray, List.getElem_cons_succ, List.getElem_cons_zero]; obtain ⟨hS1, hS2, hS3, hS4⟩ := hSw; first | (go_simp; with_reducible rfl) | (go_simp; done) | rfl)
    simp only [List.getElem_toArray, List.getElem_cons_succ, List.getElem_cons_zero, Act.put, List.setIfInBounds_toArray, List.set_cons_zero, List.set_cons_succ]
    -- 9: Op.fieldAddr 36 (Operand.tmp 1) 3
    refine' anyZ_pure (i := 9) (v := _) rfl (by rfl) (by kernel_rfl) (by kernel_rfl) (by kernel_rfl) hcl6 (fun _ _ _ h => h) (Or.inl ⟨by rfl, fun w _ => ?h7⟩) (fun _ => hHeld) (fun hcl7 => ?r7)
    case h7 => (simp only [List.getElem_toArray, List.getElem_cons_succ, List.getElem_cons_zero]; first | (go_simp; with_reducible rfl) | (go_simp; done) | rfl)
    simp only [List.getElem_toArray, List.getElem_cons_succ, List.getElem_cons_zero, Act.put, List.setIfInBounds_toArray, List.set_cons_zero, List.set_cons_succ]
    -- 10: Op.load 9 (Operand.tmp 16)
    refine' anyZ_take (i := 10) (v := _) rfl (by rfl) (by kernel_rfl) (by kernel_rfl) (by kernel_rfl) hcl7 12 (by kernel_rfl) (by kernel_rfl) (fun _ _ _ h => h) (Or.inl ⟨by rfl, fun w hSw => ?h8⟩) hHeld (fun hcl8 => ?r8)
    case h8 => (simp only [List.getElem_toArray, List.getElem_cons_succ, List.getElem_cons_zero]; obtain ⟨hS1, hS2, hS3, hS4⟩ := hSw; first | (go_simp; with_reducible rfl) | (go_simp; done) | rfl)
    simp only [List.getElem_toArray, List.getElem_cons_succ, List.getElem_cons_zero, Act.put, List.setIfInBounds_toArray, List.set_cons_zero, List.set_cons_succ]
    -- 2: Op.call { callee := Callee.value (Operand.func 26), args := 
    refine anyZ_one (i := 2) hcl8 (by kernel_rfl) (by simp only [List.getElem?_toArray, List.getElem?_cons_succ, List.getElem?_cons_zero]; rfl) (by rfl) (fun hcl9 K hK => ?_)
    go_simp
    rw [HKN.out]
    refine (wbyte_any w.heap.size g [] (UInt8.ofNat k) _ HW1.out (by simp) (Nat.le_trans HB2.out.size (Grew.size HG0.out))).mono ?_
    rintro e wa ⟨rfl, hwa, hga⟩
    have HWA := Lib.hid hwa
    have HGA := Lib.hid (HG0.out.trans hga)
    clear hwa hga
    refine hK _ _ (fun _ => ?_) ?_
    · exact HSB.out _ HGA.out
    clear hK K hHeld
    have hHeld := (HSB.out _ HGA.out)
    try simp only [Act.put, List.setIfInBounds_toArray, List.set_cons_zero, List.set_cons_succ]
    -- 5: Op.call { callee := Callee.value (Operand.func 27), args := 
    refine anyZ_one (i := 5) hcl9 (by kernel_rfl) (by simp only [List.getElem?_toArray, List.getElem?_cons_succ, List.getElem?_cons_zero]; rfl) (by rfl) (fun hcl10 K hK => ?_)
    go_simp
    refine (num_any w.heap.size g _ a _ HA.out HWA.out (by simp) (Nat.le_trans HB2.out.size (Grew.size HGA.out))).mono ?_
    rintro e wb ⟨rfl, hwb, hgb⟩
    have HWB := Lib.hid hwb
    have HGB := Lib.hid (HGA.out.trans hgb)
    clear hwb hgb
    refine hK _ _ (fun _ => ?_) ?_
    · exact HSB.out _ HGB.out
    clear hK K hHeld
    have hHeld := (HSB.out _ HGB.out)
    try simp only [Act.put, List.setIfInBounds_toArray, List.set_cons_zero, List.set_cons_succ]
    -- 8: Op.call { callee := Callee.value (Operand.func 27), args := 
    refine anyZ_one (i := 8) hcl10 (by kernel_rfl) (by simp only [List.getElem?_toArray, List.getElem?_cons_succ, List.getElem?_cons_zero]; rfl) (by rfl) (fun hcl11 K hK => ?_)
    go_simp
    refine (num_any w.heap.size g _ b _ HBB.out HWB.out (by have := (Vi.varint_length a).2; simp; omega) (Nat.le_trans HB2.out.size (Grew.size HGB.out))).mono ?_
    rintro e wc ⟨rfl, hwc, hgc⟩
    have HWC := Lib.hid hwc
    have HGC := Lib.hid (HGB.out.trans hgc)
    clear hwc hgc
    refine hK _ _ (fun _ => ?_) ?_
    · exact HSB.out _ HGC.out
    clear hK K hHeld
    have hHeld := (HSB.out _ HGC.out)
    try simp only [Act.put, List.setIfInBounds_toArray, List.set_cons_zero, List.set_cons_succ]
    clear hHeld
    refine anyZ_chain_at (by kernel_rfl) ?_
    simp only [List.drop_succ_cons, List.drop_zero]
    have hla := (Vi.varint_length a).2
    have hlb := (Vi.varint_length b).2
    have hlc := (Vi.varint_length nm.size).2
    have hn64 := HN64.out
    go_wp2_with fail
    refine (wtext_any w.heap.size g _ nm _ (by omega) HWC.out (by simp; omega) (Nat.le_trans HB2.out.size (Grew.size HGC.out))).mono ?_
    rintro e wd ⟨rfl, hwd, hgd⟩
    have HWD := Lib.hid hwd
    have HGD := Lib.hid (HGC.out.trans hgd)
    clear hwd hgd
    go_wp2_with fail
    refine (wbytes_any w.heap.size g _ wd HWD.out (by simp [str_len]; omega)).mono ?_
    rintro e we ⟨v', rfl, hown, hbe⟩
    have HOWN := Lib.hid hown
    have HBE := Lib.hid hbe
    clear hown hbe hla hlb hlc hn64
    go_wp2_with fail
    go_ret
    have hbd := HOUT.out wd HGD.out
    exact ⟨v', rfl, by rw [HXR.out]; exact ownsRow_base HOWN.out hbd.size, hbd.trans (HBE.out.mono hbd.size)⟩
end Go.Proofs.YtminfdlhbecnhaaGreatDoor
