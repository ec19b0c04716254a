/- Walk: Full: bytes as a whole sector. -/
import Derived.Test.YtejdlgfiiagcmaaDoorJoin
import Derived.Test.YtejdlgfiiagcmaaDoorOrd
import Derived.Test.YtejdlgfiiagcmaaDoorMake
namespace Go.Proofs.YtejdlgfiiagcmaaDoor
open Go.RowKit

theorem make8 : MakeTy Tryd.prog 25 5 := MakeTy.mk' Tryd.underlying25 (by kernel_rfl)

/-- bytes as a whole sector -/
def fullOf (p : List UInt8) : List UInt8 := (p.take 512 ++ List.replicate 512 0).take 512
theorem fullOf_length (p : List UInt8) : (fullOf p).length = 512 := by unfold fullOf; rw [List.length_take, List.length_append, List.length_replicate]; omega

set_option maxRecDepth 10000 in
set_option maxHeartbeats 800000 in
theorem full_any (v : Value) (p : List UInt8) (w : World) (hv : Bytes w v p) :
    Calls Tryd.prog 11 #[v] w fun e w' => ∃ v', e = .returned v' ∧ Own8 5 w.heap.size w' v' (fullOf p) ∧ Below w.heap.size w w' := by
  have hbig : [p.take 512, List.replicate 512 (0 : UInt8)].flatten.length ≤ 140737488355328 := by
    rw [List.flatten_cons, List.flatten_cons, List.flatten_nil, List.append_nil, List.length_append, List.length_take, List.length_replicate]; omega
  have hfl : [p.take 512, List.replicate 512 (0 : UInt8)].flatten = p.take 512 ++ List.replicate 512 0 := by
    rw [List.flatten_cons, List.flatten_cons, List.flatten_nil, List.append_nil]
  have HBIG := Lib.hid hbig
  have HFL := Lib.hid hfl
  clear hbig hfl
  have hv0 : Bytes w.drew v p := hv.drew
  have HV := Lib.hid hv0
  obtain ⟨a, c, rfl, _⟩ := id hv
  clear hv hv0
  go_enter Tryd.func11, Tryd.ntmps11
  go_wp2
  refine region_anyZ (z := 3) (S := fun _ => True) (by kernel_rfl) ?_
  refine anyZ_begin (fun hcl0 => ?_)
  refine anyZ_held trivial (fun hHeld => ?_)
  refine' anyZ_pure (i := 0) (v := _) rfl (by rfl) (by kernel_rfl) (by kernel_rfl) (by kernel_rfl) hcl0 (fun _ _ _ h => h) (Or.inl ⟨by rfl, fun w _ => ?h1⟩) (fun _ => hHeld) (fun hcl1 => ?r1)
  case h1 => (simp only [List.getElem_toArray, List.getElem_cons_zero]; first | (go_simp; with_reducible rfl) | (go_simp; done) | rfl)
  simp only [List.getElem_toArray, List.getElem_cons_zero, Act.put, List.setIfInBounds_toArray, List.set_cons_zero, List.set_cons_succ]
  refine anyZ_two (i := 1) (j := 2) hcl1 (by kernel_rfl) (by simp only [List.getElem?_toArray, List.getElem?_cons_succ, List.getElem?_cons_zero]; rfl) (by rfl) (by simp only [List.getElem?_toArray, List.getElem?_cons_succ, List.getElem?_cons_zero]; rfl) (by rfl) (fun hcl2 K hK => ?_) (fun hcl2 K hK => ?_)
  · go_simp
    refine (cut_any _ p 512 (by omega) (by omega) w.drew HV.out).mono ?_
    rintro e w1 ⟨vc, rfl, hoc1, hb1⟩
    refine hK _ _ (fun _ => trivial) ?_
    clear hK K
    try simp only [Act.put, List.setIfInBounds_toArray, List.set_cons_zero, List.set_cons_succ]
    refine anyZ_one (i := 2) hcl2 (by kernel_rfl) (by simp only [List.getElem?_toArray, List.getElem?_cons_succ, List.getElem?_cons_zero]; rfl) (by rfl) (fun hcl3 K hK => ?_)
    refine wp_make8 _ _ 25 5 make8 rfl 512 rfl rfl (by omega) ?_
    intro w2 hom hb12
    have hoc := Own8.kept hoc1 (Nat.le_refl _) hb12
    have hb2 : Below w.heap.size w w2 := btr (btr (bdr (bre w)) hb1) hb12
    obtain ⟨gm, hgm⟩ : ∃ gm, gm = w1.heap.size := ⟨_, rfl⟩
    rw [← hgm] at hom ⊢
    clear hgm hoc1 hb12 hb1 hcl2
    refine hK _ _ (fun _ => trivial) ?_
    clear hK K hcl3 hHeld
    try simp only [Act.put, List.setIfInBounds_toArray, List.set_cons_zero, List.set_cons_succ]
    refine anyZ_chain_at (by kernel_rfl) ?_
    simp only [List.drop_succ_cons, List.drop_zero]
    rw [show (512 : Int).toNat = 512 by rfl] at hoc
    have hsz := hb2.size
    obtain ⟨ac, nc, cc, rfl⟩ := hoc.isSlice
    have HOC := Lib.hid hoc
    have HOM := Lib.hid hom
    clear hoc hom
    go_wp2_with fail
    have hb3 := bal (bre w2) (.cells #[.slice ac nc cc, .slice (some ⟨gm, 0, none⟩) 512 512] 25)
    have hrows := rows_lit2 w2 (.slice ac nc cc) (.slice (some ⟨gm, 0, none⟩) 512 512) (p.take 512) (List.replicate 512 0) 25 w2.heap.size rfl HOC.out.bytes HOM.out.bytes
    generalize w2.alloc (.cells #[.slice ac nc cc, .slice (some ⟨gm, 0, none⟩) 512 512] 25) = w3 at *
    refine (join_any _ [p.take 512, List.replicate 512 0] w3 hrows HBIG.out).mono ?_
    rintro e w4 ⟨v4, rfl, ho4, hb4⟩
    rw [HFL.out] at ho4
    go_wp2_with fail
    refine (cut_any v4 _ 512 (by omega) (by omega) w4 ho4.bytes).mono ?_
    rintro e w5 ⟨v5, rfl, ho5, hb5⟩
    rw [show (512 : Int).toNat = 512 by rfl] at ho5
    have hbe := btr (btr (btr hb2 hb3) hb4) hb5
    have ho6 : Own8 5 w.heap.size w5 v5 (fullOf p) := ownsRow_base ho5 (by have := (btr (btr hb2 hb3) hb4).size; exact this)
    go_wp2
    go_ret
    exact ⟨_, rfl, ho6, hbe⟩
  · refine wp_make8 _ _ 25 5 make8 rfl 512 rfl rfl (by omega) ?_
    intro w1 hom1 hb1
    refine hK _ _ (fun _ => trivial) ?_
    clear hK K
    try simp only [Act.put, List.setIfInBounds_toArray, List.set_cons_zero, List.set_cons_succ]
    refine anyZ_one (i := 1) hcl2 (by kernel_rfl) (by simp only [List.getElem?_toArray, List.getElem?_cons_succ, List.getElem?_cons_zero]; rfl) (by rfl) (fun hcl3 K hK => ?_)
    go_simp
    refine (cut_any _ p 512 (by omega) (by omega) w1 (HV.out.below hb1)).mono ?_
    rintro e w2 ⟨vc, rfl, hoc, hb12⟩
    have hom : Own8 5 w.drew.heap.size w2 (.slice (some ⟨w.heap.size, 0, none⟩) 512 512) (List.replicate 512 0) := Own8.kept hom1 (Nat.le_refl _) hb12
    have hb2 : Below w.heap.size w w2 := btr (btr (bdr (bre w)) hb1) hb12
    clear hom1 hb12 hb1 hcl2
    refine hK _ _ (fun _ => trivial) ?_
    clear hK K hcl3 hHeld
    try simp only [Act.put, List.setIfInBounds_toArray, List.set_cons_zero, List.set_cons_succ]
    refine anyZ_chain_at (by kernel_rfl) ?_
    simp only [List.drop_succ_cons, List.drop_zero]
    rw [show (512 : Int).toNat = 512 by rfl] at hoc
    have hsz := hb2.size
    obtain ⟨ac, nc, cc, rfl⟩ := hoc.isSlice
    have HOC := Lib.hid hoc
    have HOM := Lib.hid hom
    clear hoc hom
    go_wp2_with fail
    have hb3 := bal (bre w2) (.cells #[.slice ac nc cc, .slice (some ⟨w.heap.size, 0, none⟩) 512 512] 25)
    have hrows := rows_lit2 w2 (.slice ac nc cc) (.slice (some ⟨w.heap.size, 0, none⟩) 512 512) (p.take 512) (List.replicate 512 0) 25 w2.heap.size rfl HOC.out.bytes HOM.out.bytes
    generalize w2.alloc (.cells #[.slice ac nc cc, .slice (some ⟨w.heap.size, 0, none⟩) 512 512] 25) = w3 at *
    refine (join_any _ [p.take 512, List.replicate 512 0] w3 hrows HBIG.out).mono ?_
    rintro e w4 ⟨v4, rfl, ho4, hb4⟩
    rw [HFL.out] at ho4
    go_wp2_with fail
    refine (cut_any v4 _ 512 (by omega) (by omega) w4 ho4.bytes).mono ?_
    rintro e w5 ⟨v5, rfl, ho5, hb5⟩
    rw [show (512 : Int).toNat = 512 by rfl] at ho5
    have hbe := btr (btr (btr hb2 hb3) hb4) hb5
    have ho6 : Own8 5 w.heap.size w5 v5 (fullOf p) := ownsRow_base ho5 (by have := (btr (btr hb2 hb3) hb4).size; exact this)
    go_wp2
    go_ret
    exact ⟨_, rfl, ho6, hbe⟩
end Go.Proofs.YtejdlgfiiagcmaaDoor
