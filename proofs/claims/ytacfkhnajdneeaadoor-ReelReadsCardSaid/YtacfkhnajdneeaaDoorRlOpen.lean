/- Walk: a log is opened. -/
import Derived.Test.YtacfkhnajdneeaaDoorRlRead
import Derived.Test.YtacfkhnajdneeaaDoorPreE
namespace Go.Proofs.YtacfkhnajdneeaaDoor
open Go.RowKit

theorem RlRow.put2 {w : World} {g gd gen fr n serial : Nat} {vl vp vs : Value} (h : RlRow w g gd gen fr n serial vl vp vs) (x : Nat) : RlRow (w.setCell ⟨g, 2, none⟩ (.int .i64 x)) g gd gen x n serial vl vp vs := heap_setCell_same w g 2 _ _ _ h
theorem RlRow.put3 {w : World} {g gd gen fr n serial : Nat} {vl vp vs : Value} (h : RlRow w g gd gen fr n serial vl vp vs) (x : Nat) : RlRow (w.setCell ⟨g, 3, none⟩ (.int .i64 x)) g gd gen fr x serial vl vp vs := heap_setCell_same w g 3 _ _ _ h
theorem cr_from_le (c : Cr) (n : Nat) : (c.from n).1 + (c.from n).2 ≤ n := by
  unfold Cr.from
  split
  · omega
  · have : c.half % 2 = 0 ∨ c.half % 2 = 1 := by omega
    rcases this with h | h <;> rw [h] <;> simp <;> omega

/-- the serial of what is written from now on -/
def serialOf (c : Cr) (d : Dk) : Nat := (topOf c.gen c.serial (halfOf d (c.from d.safe.length).1 (c.from d.safe.length).2) + 1) % 4294967296

set_option maxRecDepth 20000 in
theorem ropen_no (v : Value) (c : Cr) (w : World) (hh : c.half < 256) (h : v = .pointer none ∨ ∃ g, v = .pointer (some ⟨g, 0, none⟩) ∧ 1 < c.half) :
    Calls Tryd.prog 20 #[v, CrVal c] w fun e w' => e = .returned (.tuple #[.pointer none, .int .i64 0, .int .i64 1]) ∧ Below w.heap.size w w' := by
  unfold CrVal
  rcases h with rfl | ⟨g, rfl, h⟩
  · clear hh
    go_enter Tryd.func20, Tryd.ntmps20
    go_wp2_with fail
    go_ret3
    exact ⟨rfl, bal (bre w) _⟩
  · have d1 : decide ((1 : Int) < (c.half : Int)) = true := decide_eq_true (by omega)
    have d1n : decide (1 < c.half) = true := decide_eq_true h
    clear hh h
    go_enter Tryd.func20, Tryd.ntmps20
    go_wp2_with fail
    go_ret3
    exact ⟨rfl, bal (bre w) _⟩

set_option maxRecDepth 20000 in
set_option maxHeartbeats 1600000 in
theorem ropen_any (gd : Nat) (d : Dk) (F : Nat → Prop) (c : Cr) (ok : c.Ok) (w : World) (hd : DiskAt w gd d F) (hh : c.half ≤ 1) (hw : d.wait.length ≤ 1000000) :
    Calls Tryd.prog 20 #[.pointer (some ⟨gd, 0, none⟩), CrVal c] w fun e w' => Below w.heap.size w w' ∧
      (d.safe.length < 4 → e = .returned (.tuple #[.pointer none, .int .i64 0, .int .i64 1])) ∧
      (4 ≤ d.safe.length → ∃ (s : Option Nat) (P : List UInt8) (so : List Nat), scanR c.gen 0 0 (halfOf d (c.from d.safe.length).1 (c.from d.safe.length).2) = (s, P, so) ∧
        (∀ i, s = some i → e = .returned (.tuple #[.pointer none, .int .i64 (((c.from d.safe.length).1 + i : Nat) : Int), .int .i64 7])) ∧
        (s = none → ∃ g G, e = .returned (.tuple #[.pointer (some ⟨g, 0, none⟩), .int .i64 0, .int .i64 0]) ∧ RlIn w' g gd ⟨c.gen, (c.from d.safe.length).1, (c.from d.safe.length).2, serialOf c d, cutL P, so⟩ G ∧ ∀ k, G k → w.heap.size ≤ k)) := by
  have hfew := hd.ok.few
  have HD := Lib.hid hd
  have HW := Lib.hid hw
  have HOK := Lib.hid ok
  have hle := cr_from_le c d.safe.length
  have hser : serialOf c d = (topOf c.gen c.serial (halfOf d (c.from d.safe.length).1 (c.from d.safe.length).2) + 1) % 4294967296 := rfl
  have hfrom : d.safe.length < 4 ↔ (c.from d.safe.length).2 = 0 := by unfold Cr.from; split <;> simp <;> omega
  have HFA : Hid (∀ w1, Calls Tryd.prog 34 #[CrVal c, .int .i64 d.safe.length] w1 fun e w' => e = .returned (.tuple #[.int .i64 (c.from d.safe.length).1, .int .i64 (c.from d.safe.length).2]) ∧ Below w1.heap.size w1 w') := Lib.hid fun w1 => from_any c d.safe.length (by omega) (by omega) w1
  obtain ⟨fr, hfr⟩ : ∃ x, x = (c.from d.safe.length).1 := ⟨_, rfl⟩
  obtain ⟨n, hn⟩ : ∃ x, x = (c.from d.safe.length).2 := ⟨_, rfl⟩
  rw [← hfr, ← hn] at hle HFA hser
  rw [← hn] at hfrom
  rw [← hfr, ← hn]
  obtain ⟨ser, hsr⟩ : ∃ x, x = serialOf c d := ⟨_, rfl⟩
  rw [← hsr] at hser ⊢
  have HSER := Lib.hid hser
  obtain ⟨N, hN⟩ : ∃ N, N = d.safe.length := ⟨_, rfl⟩
  rw [← hN] at hle hfew HFA hfrom ⊢
  have HN := Lib.hid hN
  have HFROM := Lib.hid hfrom
  have d1 : decide ((1 : Int) < (c.half : Int)) = false := decide_eq_false (by omega)
  have d1n : decide (1 < c.half) = false := decide_eq_false (by omega)
  unfold CrVal at HFA ⊢
  obtain ⟨n3, hn3⟩ : ∃ n, n = w.heap.size := ⟨_, rfl⟩
  obtain ⟨n4, hn4⟩ : ∃ n, n = n3 + 1 := ⟨_, rfl⟩
  clear hd hw hfr hn hsr hN hfrom hser ok hh
  go_enter Tryd.func20, Tryd.ntmps20
  go_upto_region 4 with fail
  have hb0 := bal (bal (bre w) (.cells #[.int .u32 c.gen, .int .u8 c.half, .int .u32 c.serial] 36)) (.cells #[.pointer (some ⟨gd, 0, none⟩), .int .u32 c.gen, .int .i64 0, .int .i64 0, .slice none 0 0, .slice none 0 0, .int .u32 c.serial, .slice none 0 0] 99)
  obtain ⟨hr1, hr2⟩ := box_two w (.cells #[.int .u32 c.gen, .int .u8 c.half, .int .u32 c.serial] 36) (.cells #[.pointer (some ⟨gd, 0, none⟩), .int .u32 c.gen, .int .i64 0, .int .i64 0, .slice none 0 0, .slice none 0 0, .int .u32 c.serial, .slice none 0 0] 99)
  generalize (w.alloc (.cells #[.int .u32 c.gen, .int .u8 c.half, .int .u32 c.serial] 36)).alloc (.cells #[.pointer (some ⟨gd, 0, none⟩), .int .u32 c.gen, .int .i64 0, .int .i64 0, .slice none 0 0, .slice none 0 0, .int .u32 c.serial, .slice none 0 0] 99) = W at *
  rw [← hn3] at hr1 hr2 ⊢
  rw [← hn4] at hr2 ⊢
  have hrow : RlRow W n4 gd c.gen 0 0 c.serial (.slice none 0 0) (.slice none 0 0) (.slice none 0 0) := hr2
  have hcr : Row3 W n3 c := hr1
  have HROW := Lib.hid hrow
  have HCR := Lib.hid hcr
  have HB0 := Lib.hid hb0
  have HGE : Hid (w.heap.size ≤ n4) := Lib.hid (by omega)
  clear hb0 hr1 hr2 hrow hcr hn3 hn4 d1 d1n
  refine region_anyZ (z := 9) (S := fun w' => (w'.cell? ⟨n3, 0, none⟩ = some (.int .u32 c.gen) ∧ w'.cell? ⟨n3, 1, none⟩ = some (.int .u8 c.half) ∧ w'.cell? ⟨n3, 2, none⟩ = some (.int .u32 c.serial))) (by kernel_rfl) ?_
  refine anyZ_begin (fun hcl0 => ?_)
  refine anyZ_held (by exact ⟨(HCR.out.below (bdr (bre W))).c0, (HCR.out.below (bdr (bre W))).c1, (HCR.out.below (bdr (bre W))).c2⟩) (fun hHeld => ?_)
  -- 0: Op.move (Operand.tmp 7)
  refine' anyZ_pure (i := 0) (v := _) rfl (by rfl) (by kernel_rfl) (by kernel_rfl) (by kernel_rfl) hcl0 (fun _ _ _ h => h) (Or.inl ⟨by rfl, fun w _ => ?hy1⟩) (fun _ => hHeld) (fun hcl1 => ?ry1)
  case hy1 => (simp only [List.getElem_toArray, List.getElem_cons_zero]; first | (go_simp; with_reducible rfl) | (go_simp; done) | rfl)
  simp only [List.getElem_toArray, List.getElem_cons_zero, Act.put, List.setIfInBounds_toArray, List.set_cons_zero, List.set_cons_succ]
  -- 1: Op.move (Operand.tmp 7)
  refine' anyZ_pure (i := 1) (v := _) rfl (by rfl) (by kernel_rfl) (by kernel_rfl) (by kernel_rfl) hcl1 (fun _ _ _ h => h) (Or.inl ⟨by rfl, fun w _ => ?hy2⟩) (fun _ => hHeld) (fun hcl2 => ?ry2)
  case hy2 => (simp only [List.getElem_toArray, List.getElem_cons_succ, List.getElem_cons_zero]; first | (go_simp; with_reducible rfl) | (go_simp; done) | rfl)
  simp only [List.getElem_toArray, List.getElem_cons_succ, List.getElem_cons_zero, Act.put, List.setIfInBounds_toArray, List.set_cons_zero, List.set_cons_succ]
  -- 2: Op.load 36 (Operand.tmp 3)
  refine' anyZ_take (i := 2) (v := _) rfl (by rfl) (by kernel_rfl) (by kernel_rfl) (by kernel_rfl) hcl2 8 (by kernel_rfl) (by kernel_rfl) (fun _ _ _ h => h) (Or.inl ⟨by rfl, fun w hSw => ?hy3⟩) hHeld (fun hcl3 => ?ry3)
  case hy3 => (simp only [List.getElem_toArray, List.getElem_cons_succ, List.getElem_cons_zero]; obtain ⟨hS1, hS2, hS3⟩ := hSw; first | (go_simp; with_reducible rfl) | (go_simp; done) | rfl)
  simp only [List.getElem_toArray, List.getElem_cons_succ, List.getElem_cons_zero, Act.put, List.setIfInBounds_toArray, List.set_cons_zero, List.set_cons_succ]
  -- 3: Op.move (Operand.tmp 0)
  refine' anyZ_pure (i := 3) (v := _) rfl (by rfl) (by kernel_rfl) (by kernel_rfl) (by kernel_rfl) hcl3 (fun _ _ _ h => h) (Or.inl ⟨by rfl, fun w _ => ?hy4⟩) (fun _ => hHeld) (fun hcl4 => ?ry4)
  case hy4 => (simp only [List.getElem_toArray, List.getElem_cons_succ, List.getElem_cons_zero]; first | (go_simp; with_reducible rfl) | (go_simp; done) | rfl)
  simp only [List.getElem_toArray, List.getElem_cons_succ, List.getElem_cons_zero, Act.put, List.setIfInBounds_toArray, List.set_cons_zero, List.set_cons_succ]
  -- 4: Op.call { callee := Callee.value (Operand.func 35), args := 
  refine anyZ_one (i := 4) hcl4 (by kernel_rfl) (by simp only [List.getElem?_toArray, List.getElem?_cons_succ, List.getElem?_cons_zero]; rfl) (by rfl) (fun hcl5 K hK => ?_)
  go_simp
  refine (sectors_any gd d F _ (HD.out.below (btr HB0.out (bdr (bre W))))).mono ?_
  rintro e w2 ⟨rfl, hw⟩
  have hw' := hw.symm
  subst hw'
  clear hw
  rw [← HN.out]
  refine hK _ _ (fun _ => ?_) ?_
  · exact ⟨(HCR.out.below (bdr (bre W))).c0, (HCR.out.below (bdr (bre W))).c1, (HCR.out.below (bdr (bre W))).c2⟩
  clear hK K hHeld
  have hHeld := (⟨(HCR.out.below (bdr (bre W))).c0, (HCR.out.below (bdr (bre W))).c1, (HCR.out.below (bdr (bre W))).c2⟩ : _ ∧ _ ∧ _)
  try simp only [Act.put, List.setIfInBounds_toArray, List.set_cons_zero, List.set_cons_succ]
  -- 5: Op.call { callee := Callee.value (Operand.func 34), args := 
  refine anyZ_one (i := 5) hcl5 (by kernel_rfl) (by simp only [List.getElem?_toArray, List.getElem?_cons_succ, List.getElem?_cons_zero]; rfl) (by rfl) (fun hcl6 K hK => ?_)
  go_simp
  refine (HFA.out _).mono ?_
  rintro e w5 ⟨rfl, hb5⟩
  have hb5' := btr (bdr (bre W)) hb5
  have HB5 := Lib.hid (btr HB0.out hb5')
  have HROW5 := Lib.hid (HROW.out.below hb5')
  have HCR5 := Lib.hid (HCR.out.below hb5')
  clear hb5 hb5'
  refine hK _ _ (fun _ => ?_) ?_
  · exact ⟨HCR5.out.c0, HCR5.out.c1, HCR5.out.c2⟩
  clear hK K hHeld
  have hHeld := (⟨HCR5.out.c0, HCR5.out.c1, HCR5.out.c2⟩ : _ ∧ _ ∧ _)
  try simp only [Act.put, List.setIfInBounds_toArray, List.set_cons_zero, List.set_cons_succ]
  -- 6: Op.move (Operand.tmp 30)
  refine' anyZ_pure (i := 6) (v := _) rfl (by rfl) (by kernel_rfl) (by kernel_rfl) (by kernel_rfl) hcl6 (fun _ _ _ h => h) (Or.inl ⟨by rfl, fun w _ => ?hy7⟩) (fun _ => hHeld) (fun hcl7 => ?ry7)
  case hy7 => (simp only [List.getElem_toArray, List.getElem_cons_succ, List.getElem_cons_zero]; first | (go_simp; with_reducible rfl) | (go_simp; done) | rfl)
  simp only [List.getElem_toArray, List.getElem_cons_succ, List.getElem_cons_zero, Act.put, List.setIfInBounds_toArray, List.set_cons_zero, List.set_cons_succ]
  -- 7: Op.extract (Operand.tmp 24) 0
  refine' anyZ_pure (i := 7) (v := _) rfl (by rfl) (by kernel_rfl) (by kernel_rfl) (by kernel_rfl) hcl7 (fun _ _ _ h => h) (Or.inl ⟨by rfl, fun w _ => ?hy8⟩) (fun _ => hHeld) (fun hcl8 => ?ry8)
  case hy8 => (simp only [List.getElem_toArray, List.getElem_cons_succ, List.getElem_cons_zero]; first | (go_simp; with_reducible rfl) | (go_simp; done) | rfl)
  simp only [List.getElem_toArray, List.getElem_cons_succ, List.getElem_cons_zero, Act.put, List.setIfInBounds_toArray, List.set_cons_zero, List.set_cons_succ]
  -- 8: Op.extract (Operand.tmp 24) 1
  refine' anyZ_pure (i := 8) (v := _) rfl (by rfl) (by kernel_rfl) (by kernel_rfl) (by kernel_rfl) hcl8 (fun _ _ _ h => h) (Or.inl ⟨by rfl, fun w _ => ?hy9⟩) (fun _ => hHeld) (fun hcl9 => ?ry9)
  case hy9 => (simp only [List.getElem_toArray, List.getElem_cons_succ, List.getElem_cons_zero]; first | (go_simp; with_reducible rfl) | (go_simp; done) | rfl)
  simp only [List.getElem_toArray, List.getElem_cons_succ, List.getElem_cons_zero, Act.put, List.setIfInBounds_toArray, List.set_cons_zero, List.set_cons_succ]
  clear hHeld
  refine anyZ_chain_at (by kernel_rfl) ?_
  simp only [List.drop_succ_cons, List.drop_zero]
  have x2 := HROW5.out.c2
  have x3 := HROW5.out.c3
  have fz := HROW5.out.fz
  have HR6 := Lib.hid ((HROW5.out.put2 fr).put3 n)
  have HON := Lib.hid ((Only.setCell w5 ⟨n4, 2, none⟩ (.int .i64 fr)).trans (Only.setCell _ ⟨n4, 3, none⟩ (.int .i64 n)) fun _ _ e => e)
  go_upto_region 5 with fail
  generalize (w5.setCell ⟨n4, 2, none⟩ (.int .i64 fr)).setCell ⟨n4, 3, none⟩ (.int .i64 n) = w6 at *
  have HB6 : Hid (Below w.heap.size w w6) := Lib.hid (HB5.out.trans (HON.out.below w.heap.size HB5.out.size fun k hk e => by have e' : k = n4 := e; have := HGE.out; omega))
  have HD6 := Lib.hid (HD.out.below HB6.out)
  have HF4 : Hid (¬ F n4) := Lib.hid (HD6.out.apartT HR6.out (by decide) (by decide) (by decide))
  have x36 := HR6.out.c3
  clear x2 x3 fz HROW5 HCR5 HON HB5 HROW HCR HB0 HFA
  by_cases h4 : N < 4
  · have hn0 : n = 0 := HFROM.out.1 h4
    have e1 : ((n : Int) == 0) = true := by rw [hn0]; rfl
    have e2 : decide ((n : Int) = 0) = true := decide_eq_true (by omega)
    clear hn0
    go_wp2_with fail
    go_ret3
    exact ⟨HB6.out, fun _ => rfl, fun h => by omega⟩
  · have hn0 : ¬ n = 0 := fun e => h4 (HFROM.out.2 e)
    have e1 : ((n : Int) == 0) = false := beq_false_of_ne (by omega)
    have e2 : decide ((n : Int) = 0) = false := decide_eq_false (by omega)
    clear hn0
    go_wp2_with fail
    refine (rread_any n4 gd c.gen fr n c.serial d F w6 HD6.out HF4.out HR6.out (by rw [← HN.out]; exact hle) HW.out).mono ?_
    rintro e w7 ⟨s, P, so, hsc, ho7, hbad, hgood⟩
    have hb7 : Below w.heap.size w w7 := HB6.out.trans (ho7.below w.heap.size HB6.out.size fun k hk e => by have e' : k = n4 := e; have := HGE.out; omega)
    have HB7 := Lib.hid hb7
    have HSC := Lib.hid hsc
    clear hb7 hsc e1 e2 x36
    cases s with
    | some i =>
      have he := hbad i rfl
      subst he
      clear hbad hgood ho7
      obtain ⟨m, hm⟩ : ∃ m, m = fr + i := ⟨_, rfl⟩
      have HMM := Lib.hid hm
      rw [← hm]
      clear hm
      go_wp2_with fail
      go_ret3
      exact ⟨HB7.out, fun h => by omega, fun _ => ⟨some i, P, so, HSC.out, fun j hj => by cases hj; rw [← HMM.out]; rfl, fun h => by cases h⟩⟩
    | none =>
      obtain ⟨he, vl, vp, vs, hr7, hl7, hp7, hs7⟩ := hgood rfl
      subst he
      have HD7 := Lib.hid (HD.out.below HB7.out)
      have HR7 := Lib.hid hr7
      have HX7 := Lib.hid (And.intro (hl7.base (base' := 0) (Nat.zero_le _)) (And.intro (hp7.low (Nat.zero_le _)) (ownsRow_base hs7 (Nat.zero_le _))))
      have HO7 := Lib.hid (And.intro hl7 hs7)
      clear hbad hgood ho7 hr7 hl7 hp7 hs7
      go_wp2_with fail
      refine (rnum_any n4 gd c.gen fr n c.serial vl vp vs d F w7 HD7.out HR7.out (by rw [← HN.out]; exact hle) HW.out HOK.out.serial).mono ?_
      rintro e w8 ⟨rfl, hr8, ho8⟩
      rw [← HSER.out] at hr8
      have HR8 := Lib.hid hr8
      have HO8 := Lib.hid ho8
      clear hr8 ho8
      go_wp2_with fail
      go_ret3
      have hb8 : Below w.heap.size w w8 := HB7.out.trans (HO8.out.below w.heap.size HB7.out.size fun k hk e => by have e' : k = n4 := e; have := HGE.out; omega)
      have h8 : ∀ k, k = n4 → ∀ cs fr, w7.heap[k]? ≠ some (.cells cs 5 fr) := fun k e cs fr hh => by
        rw [e, HR7.out] at hh
        cases hh
      obtain ⟨us, -, hus, -⟩ := id HX7.out.1
      obtain ⟨us6, -, hus6, -⟩ := id HO7.out.1
      refine ⟨hb8, fun h => by omega, fun _ => ⟨none, P, so, HSC.out, fun i h => (by cases h), fun _ => ⟨n4, _, rfl, ⟨vl, vp, vs, HR8.out, HX7.out.1.only HO8.out fun k e => ⟨h8 k e, fun hk => ?_⟩, HX7.out.2.1.only HO8.out h8, own_only HX7.out.2.2 HO8.out fun k hk e => ?_, fun k => Iff.rfl⟩, fun k hk => ?_⟩⟩⟩
      · have e' : k = n4 := e
        rw [e'] at hk
        exact own_ne hus HR7.out (by decide) hk
      · have e' : k = n4 := e
        rw [e'] at hk
        exact own_ne HX7.out.2.2 HR7.out (by decide) hk
      · rcases hk with e | e | e
        · rw [e]; exact HGE.out
        · exact Nat.le_trans HB6.out.size (World.ownsRow.lt hus6 k e).1
        · exact Nat.le_trans HB6.out.size (World.ownsRow.lt HO7.out.2 k e).1
end Go.Proofs.YtacfkhnajdneeaaDoor
