/- Walk: the parser's small hands: is, take, want, name, types. -/
import Derived.Test.YtljdphpbalioaaaGreatDoorGrA
namespace Go.Proofs.YtljdphpbalioaaaGreatDoor
open Go.RowKit

theorem mk8_inj {a b : List UInt8} (h : mk8 a = mk8 b) : a = b := by
  unfold mk8 at h
  injection h with h
  simpa using congrArg Array.toList h

set_option maxRecDepth 20000 in
set_option maxHeartbeats 1600000 in
theorem is_tok (g : Nat) (ta : Option Addr) (tc : Nat) (ts : List Tok) (s : PS) (x : List UInt8) (w : World) (h : PAt w g ta tc ts s) (hp : s.pos ≤ 1000000000) :
    Calls Tryz.prog 45 #[.pointer (some ⟨g, 0, none⟩), .string (mk8 x)] w fun e w' => e = .returned (.bool (Gr.isT ts s x)) ∧ Below w.heap.size w w' := by
  have H := Lib.hid h
  obtain ⟨t, ht⟩ : ∃ t, t = Gr.now ts s := ⟨_, rfl⟩
  have HT := Lib.hid ht
  clear h ht
  go_enter Tryz.func45, Tryz.ntmps45
  go_wp2_with fail
  refine (now_any g ta tc ts s w H.out hp).mono ?_
  rintro e w1 ⟨rfl, hb1⟩
  rw [← HT.out]
  have HRES : Hid (Gr.isT ts s x = (decide (t.text = x) && (decide (t.kind = 3) || decide (t.kind = 4)))) := Lib.hid (by unfold Gr.isT; rw [HT.out])
  unfold TokV
  go_upto_region 2 with fail
  obtain ⟨n, hn⟩ : ∃ q, q = w1.heap.size := ⟨_, rfl⟩
  have hb2 := bal (bre w1) (.cells #[.int .u8 t.kind, .string (mk8 t.text), .int .i64 t.pos] 71)
  have hr2 := heap_alloc_new w1 (.cells #[.int .u8 t.kind, .string (mk8 t.text), .int .i64 t.pos] 71)
  rw [← hn] at hr2 ⊢
  generalize w1.alloc (.cells #[.int .u8 t.kind, .string (mk8 t.text), .int .i64 t.pos] 71) = w2 at *
  have r0 := cell_of_row w2 n 0 _ _ _ hr2
  have r1 := cell_of_row w2 n 1 _ _ _ hr2
  replace r0 : w2.cell? ⟨n, 0, none⟩ = some (.int .u8 (t.kind : Nat)) := r0
  replace r1 : w2.cell? ⟨n, 1, none⟩ = some (.string (mk8 t.text)) := r1
  have HB := Lib.hid (btr hb1 hb2)
  clear hb1 hb2 hr2 hn HT H
  by_cases hx : t.text = x
  · have e1 : ((mk8 t.text).toList == (mk8 x).toList) = true := by rw [hx]; exact beq_self_eq_true _
    have e2 : decide (mk8 t.text = mk8 x) = true := decide_eq_true (by rw [hx])
    by_cases h3 : t.kind = 3
    · have e3 : decide ((t.kind : Int) = 3) = true := decide_eq_true (by omega)
      have e4 : ((t.kind : Int) == 3) = true := by rw [h3]; rfl
      have HR : Hid (Gr.isT ts s x = true) := Lib.hid (by rw [HRES.out, decide_eq_true hx, decide_eq_true h3]; rfl)
      clear hx h3
      go_wp2_with fail
      go_ret
      exact ⟨by rw [HR.out]; rfl, HB.out⟩
    · have e3 : decide ((t.kind : Int) = 3) = false := decide_eq_false (by omega)
      have e4 : ((t.kind : Int) == 3) = false := by rw [beq_eq_false_iff_ne]; omega
      by_cases h4 : t.kind = 4
      · have e5 : decide ((t.kind : Int) = 4) = true := decide_eq_true (by omega)
        have e6 : ((t.kind : Int) == 4) = true := by rw [h4]; rfl
        have HR : Hid (Gr.isT ts s x = true) := Lib.hid (by rw [HRES.out, decide_eq_true hx, decide_eq_false h3, decide_eq_true h4]; rfl)
        clear hx h3 h4
        go_wp2_with fail
        go_ret
        exact ⟨by rw [HR.out]; rfl, HB.out⟩
      · have e5 : decide ((t.kind : Int) = 4) = false := decide_eq_false (by omega)
        have e6 : ((t.kind : Int) == 4) = false := by rw [beq_eq_false_iff_ne]; omega
        have HR : Hid (Gr.isT ts s x = false) := Lib.hid (by rw [HRES.out, decide_eq_true hx, decide_eq_false h3, decide_eq_false h4]; rfl)
        clear hx h3 h4
        go_wp2_with fail
        go_ret
        exact ⟨by rw [HR.out]; rfl, HB.out⟩
  · have hne : ¬ mk8 t.text = mk8 x := fun e => hx (mk8_inj e)
    have e1 : ((mk8 t.text).toList == (mk8 x).toList) = false := beq_eq_false_iff_ne.2 (by rw [mk8_list, mk8_list]; exact hx)
    have e2 : decide (mk8 t.text = mk8 x) = false := decide_eq_false hne
    have HR : Hid (Gr.isT ts s x = false) := Lib.hid (by rw [HRES.out, decide_eq_false hx]; rfl)
    clear hx hne
    go_wp2_with fail
    go_ret
    exact ⟨by rw [HR.out]; rfl, HB.out⟩

set_option maxRecDepth 20000 in
set_option maxHeartbeats 1600000 in
theorem take_tok (g : Nat) (ta : Option Addr) (tc : Nat) (ts : List Tok) (s : PS) (x : List UInt8) (w : World) (h : PAt w g ta tc ts s) (hp : s.pos ≤ 1000000000) :
    Calls Tryz.prog 27 #[.pointer (some ⟨g, 0, none⟩), .string (mk8 x)] w fun e w' => e = .returned (.bool (Gr.isT ts s x)) ∧ PAt w' g ta tc ts (Gr.take ts s x) ∧ Only w w' (fun k => k = g) := by
  have H := Lib.hid h
  clear h
  go_enter Tryz.func27, Tryz.ntmps27
  go_wp2_with fail
  refine (is_tok g ta tc ts s x w H.out hp).mono ?_
  rintro e w1 ⟨rfl, hb1⟩
  have HB := Lib.hid (Only.of_below hb1 (fun k => k = g))
  have H1 := Lib.hid (H.out.below hb1)
  clear hb1 H
  obtain ⟨b, hb⟩ : ∃ b, b = Gr.isT ts s x := ⟨_, rfl⟩
  rw [← hb]
  have HBV : Hid (Gr.isT ts s x = b) := Lib.hid hb.symm
  have HT : Hid (Gr.take ts s x = if b then Gr.PS.adv s else s) := Lib.hid (by rw [hb]; rfl)
  clear hb
  have c1 := cell_of_row w1 g 1 _ _ _ H1.out.row
  replace c1 : w1.cell? ⟨g, 1, none⟩ = some (.int .i64 (s.pos : Nat)) := c1
  have cf := frozen_of_row w1 g 1 _ _ H1.out.row
  have hw : wrap64 ((s.pos : Int) + 1) = ((s.pos + 1 : Nat) : Int) := by unfold wrap64; omega
  have hw2 : IntKind.i64.wrap ((s.pos : Int) + 1) = ((s.pos + 1 : Nat) : Int) := by rw [IntKind.wrap_i64]; omega
  cases b with
  | true =>
    go_wp2_with fail
    go_ret
    refine ⟨by rw [HBV.out]; rfl, ?_, ?_⟩
    · rw [HT.out]; first | exact H1.out.adv | (rw [← hw]; exact H1.out.adv)
    · exact HB.out.trans (Only.setCell w1 ⟨g, 1, none⟩ _) fun _ _ h => h
  | false =>
    go_wp2_with fail
    go_ret
    exact ⟨by rw [HBV.out]; rfl, by rw [HT.out]; exact H1.out, HB.out⟩

set_option maxRecDepth 20000 in
set_option maxHeartbeats 1600000 in
theorem name_tok (g : Nat) (ta : Option Addr) (tc : Nat) (ts : List Tok) (s : PS) (w : World) (h : PAt w g ta tc ts s) (hp : s.pos ≤ 1000000000) :
    Calls Tryz.prog 26 #[.pointer (some ⟨g, 0, none⟩)] w fun e w' => e = .returned (.string (mk8 (Gr.name ts s).1)) ∧ PAt w' g ta tc ts (Gr.name ts s).2 ∧ Only w w' (fun k => k = g) := by
  have H := Lib.hid h
  obtain ⟨t, ht⟩ : ∃ t, t = Gr.now ts s := ⟨_, rfl⟩
  have HT := Lib.hid ht
  clear h ht
  go_enter Tryz.func26, Tryz.ntmps26
  go_wp2_with fail
  refine (now_any g ta tc ts s w H.out hp).mono ?_
  rintro e w1 ⟨rfl, hb1⟩
  rw [← HT.out]
  have HRES : Hid (Gr.name ts s = if t.kind = 1 then (t.text, Gr.PS.adv s) else ([], Gr.PS.fail s)) := Lib.hid (by unfold Gr.name; rw [HT.out])
  unfold TokV
  go_upto_region 2 with fail
  obtain ⟨n, hn⟩ : ∃ q, q = w1.heap.size := ⟨_, rfl⟩
  have hb2 := bal (bre w1) (.cells #[.int .u8 t.kind, .string (mk8 t.text), .int .i64 t.pos] 71)
  have hr2 := heap_alloc_new w1 (.cells #[.int .u8 t.kind, .string (mk8 t.text), .int .i64 t.pos] 71)
  have H1 := Lib.hid ((H.out.below hb1).below hb2)
  have hng : ¬ n = g := fun e => by
    have h1 := (Array.getElem?_eq_some_iff.1 (H.out.below hb1).row).1
    omega
  rw [← hn] at hr2 ⊢
  generalize w1.alloc (.cells #[.int .u8 t.kind, .string (mk8 t.text), .int .i64 t.pos] 71) = w2 at *
  have r0 := cell_of_row w2 n 0 _ _ _ hr2
  have r1 := cell_of_row w2 n 1 _ _ _ hr2
  replace r0 : w2.cell? ⟨n, 0, none⟩ = some (.int .u8 (t.kind : Nat)) := r0
  replace r1 : w2.cell? ⟨n, 1, none⟩ = some (.string (mk8 t.text)) := r1
  have r1s : ∀ u, (w2.setCell ⟨g, 1, none⟩ u).cell? ⟨n, 1, none⟩ = some (.string (mk8 t.text)) := fun u => by
    have h1 := (Only.setCell w2 ⟨g, 1, none⟩ u).block n (Array.getElem?_eq_some_iff.1 hr2).1 hng
    unfold World.cell? at r1 ⊢
    rw [h1]
    exact r1
  have HB := Lib.hid (Only.of_below (btr hb1 hb2) (fun k => k = g))
  have c1 := cell_of_row w2 g 1 _ _ _ H1.out.row
  replace c1 : w2.cell? ⟨g, 1, none⟩ = some (.int .i64 (s.pos : Nat)) := c1
  have cf := fun i => frozen_of_row w2 g i _ _ H1.out.row
  have c3 := cell_of_row w2 g 3 _ _ _ H1.out.row
  replace c3 : w2.cell? ⟨g, 3, none⟩ = some (.bool s.bad) := c3
  have hw : wrap64 ((s.pos : Int) + 1) = ((s.pos + 1 : Nat) : Int) := by unfold wrap64; omega
  have hw2 : IntKind.i64.wrap ((s.pos : Int) + 1) = ((s.pos + 1 : Nat) : Int) := by rw [IntKind.wrap_i64]; omega
  clear hb1 hb2 hr2 hn HT H hng
  by_cases h1 : t.kind = 1
  · have e1 : ((t.kind : Int) != 1) = false := by rw [h1]; rfl
    have e2 : decide ((t.kind : Int) = 1) = true := decide_eq_true (by omega)
    have e3 : ((t.kind : Int) == 1) = true := by rw [h1]; rfl
    have HR : Hid (Gr.name ts s = (t.text, Gr.PS.adv s)) := Lib.hid (by rw [HRES.out, if_pos h1])
    clear h1
    go_wp2_with fail
    go_ret
    refine ⟨by rw [HR.out]; rfl, ?_, HB.out.trans (Only.setCell w2 ⟨g, 1, none⟩ _) fun _ _ h => h⟩
    rw [HR.out]; first | exact H1.out.adv | (rw [← hw]; exact H1.out.adv)
  · have e1 : ((t.kind : Int) != 1) = true := by simp only [bne_iff_ne, ne_eq]; omega
    have e2 : decide ((t.kind : Int) = 1) = false := decide_eq_false (by omega)
    have e3 : ((t.kind : Int) == 1) = false := by rw [beq_eq_false_iff_ne]; omega
    have HR : Hid (Gr.name ts s = ([], Gr.PS.fail s)) := Lib.hid (by rw [HRES.out, if_neg h1])
    clear h1
    go_wp2_with fail
    go_ret
    refine ⟨by rw [HR.out]; rfl, ?_, HB.out.trans (Only.setCell w2 ⟨g, 3, none⟩ _) fun _ _ h => h⟩
    rw [HR.out]; exact H1.out.fail

set_option maxRecDepth 20000 in
set_option maxHeartbeats 1600000 in
theorem types_tok (g : Nat) (ta : Option Addr) (tc : Nat) (ts : List Tok) (s : PS) (w : World) (h : PAt w g ta tc ts s) (hp : s.pos ≤ 1000000000) :
    Calls Tryz.prog 48 #[.pointer (some ⟨g, 0, none⟩)] w fun e w' => e = .returned (.int .u8 ((Gr.types ts s).1 : Nat)) ∧ PAt w' g ta tc ts (Gr.types ts s).2 ∧ Only w w' (fun k => k = g) := by
  have H := Lib.hid h
  clear h
  go_enter Tryz.func48, Tryz.ntmps48
  go_wp2_with fail
  refine (take_tok g ta tc ts s Gr.wInt w H.out hp).mono ?_
  rintro e w1 ⟨rfl, h1, ho1⟩
  obtain ⟨b, hb⟩ : ∃ b, b = Gr.isT ts s Gr.wInt := ⟨_, rfl⟩
  rw [← hb]
  have HBV : Hid (Gr.isT ts s Gr.wInt = b) := Lib.hid hb.symm
  have HO1 := Lib.hid ho1
  have H1 := Lib.hid h1
  clear hb h1 ho1 H
  cases b with
  | true =>
    have HR : Hid (Gr.types ts s = (1, Gr.PS.adv s)) := Lib.hid (by unfold Gr.types; rw [HBV.out]; rfl)
    have HK : Hid (Gr.take ts s Gr.wInt = Gr.PS.adv s) := Lib.hid (by unfold Gr.take; rw [HBV.out]; rfl)
    go_wp2_with fail
    go_ret
    exact ⟨by rw [HR.out]; rfl, by rw [HR.out, ← HK.out]; exact H1.out, HO1.out⟩
  | false =>
    have HK : Hid (Gr.take ts s Gr.wInt = s) := Lib.hid (by unfold Gr.take; rw [HBV.out]; rfl)
    have H2 : Hid (PAt w1 g ta tc ts s) := Lib.hid (by have := H1.out; rwa [HK.out] at this)
    clear H1 HK
    go_wp2_with fail
    refine (take_tok g ta tc ts s Gr.wBool w1 H2.out hp).mono ?_
    rintro e w2 ⟨rfl, h2, ho2⟩
    obtain ⟨b, hb⟩ : ∃ b, b = Gr.isT ts s Gr.wBool := ⟨_, rfl⟩
    rw [← hb]
    have HBW : Hid (Gr.isT ts s Gr.wBool = b) := Lib.hid hb.symm
    have HO2 := Lib.hid (HO1.out.trans ho2 fun _ _ h => h)
    have H3 := Lib.hid h2
    clear hb h2 ho2 H2 HO1
    cases b with
    | true =>
      have HR : Hid (Gr.types ts s = (2, Gr.PS.adv s)) := Lib.hid (by unfold Gr.types; rw [HBV.out, HBW.out]; rfl)
      have HK : Hid (Gr.take ts s Gr.wBool = Gr.PS.adv s) := Lib.hid (by unfold Gr.take; rw [HBW.out]; rfl)
      go_wp2_with fail
      go_ret
      exact ⟨by rw [HR.out]; rfl, by rw [HR.out, ← HK.out]; exact H3.out, HO2.out⟩
    | false =>
      have HR : Hid (Gr.types ts s = (0, Gr.PS.fail s)) := Lib.hid (by unfold Gr.types; rw [HBV.out, HBW.out]; rfl)
      have HK : Hid (Gr.take ts s Gr.wBool = s) := Lib.hid (by unfold Gr.take; rw [HBW.out]; rfl)
      have H4 : Hid (PAt w2 g ta tc ts s) := Lib.hid (by have := H3.out; rwa [HK.out] at this)
      have c3 := cell_of_row w2 g 3 _ _ _ H4.out.row
      replace c3 : w2.cell? ⟨g, 3, none⟩ = some (.bool s.bad) := c3
      have cf := fun i => frozen_of_row w2 g i _ _ H4.out.row
      clear H3 HK
      go_wp2_with fail
      go_ret
      exact ⟨by rw [HR.out]; rfl, by rw [HR.out]; exact H4.out.fail, HO2.out.trans (Only.setCell w2 ⟨g, 3, none⟩ _) fun _ _ h => h⟩
end Go.Proofs.YtljdphpbalioaaaGreatDoor
