/- Walk: the parser's small hands: want. -/
import Derived.Test.YtljdphpbalioaaaGreatDoorGrB
namespace Go.Proofs.YtljdphpbalioaaaGreatDoor
open Go.RowKit

theorem want1_pos (ts : List Tok) (s : PS) (x : List UInt8) : (Gr.want1 ts s x).pos ≤ s.pos + 1 ∧ s.pos ≤ (Gr.want1 ts s x).pos := by
  unfold Gr.want1
  split
  · exact ⟨Nat.le_refl _, Nat.le_succ _⟩
  · exact ⟨Nat.le_succ _, Nat.le_refl _⟩

set_option maxRecDepth 20000 in
set_option maxHeartbeats 1600000 in
theorem want_tok (g : Nat) (ta : Option Addr) (tc : Nat) (ts : List Tok) (s : PS) (xs : List (List UInt8)) (q n sc : Nat) (w : World) (h : PAt w g ta tc ts s) (hn : xs.length = n) (hp : s.pos + n ≤ 1000000000)
    (hx : ∀ j x, xs[j]? = some x → w.cell? ⟨q, j, none⟩ = some (.string (mk8 x))) (hq : q ≠ g) :
    Calls Tryz.prog 25 #[.pointer (some ⟨g, 0, none⟩), .slice (some ⟨q, 0, none⟩) n sc] w fun e w' => e = .returned (.tuple #[]) ∧ PAt w' g ta tc ts (Gr.want ts s xs) ∧ Only w w' (fun k => k = g) := by
  have H := Lib.hid h
  have HX := Lib.hid hx
  have HN := Lib.hid hn
  have HQ := Lib.hid hq
  clear h hx hn hq
  go_enter Tryz.func25, Tryz.ntmps25
  go_wp2_with fail
  go_loopw [5, 8] (fun _ i wr => ∃ (k : Nat) (s2 : PS), k ≤ n ∧ i = .int .i64 k ∧ s2.pos + (n - k) ≤ 1000000000 ∧ Hid (Gr.want ts s2 (xs.drop k) = Gr.want ts s xs) ∧ Hid (PAt wr g ta tc ts s2) ∧ Hid (Only w wr (fun k => k = g))) (fun _ i _ => n - (intOf i).toNat)
  case atStart => exact ⟨0, s, by omega, rfl, by omega, Lib.hid (by rw [List.drop_zero]), H, Lib.hid (Only.refl _ _)⟩
  case round =>
    clear H
    obtain ⟨k, s2, hk, rfl, hs2, hwt, hpa, hon⟩ := hrel
    rename World => wr
    by_cases hlt : k < n
    · have d1 : decide ((k : Int) < (n : Int)) = true := decide_eq_true (by omega)
      have d1n : decide (k < n) = true := decide_eq_true hlt
      obtain ⟨x, hx⟩ : ∃ x, xs[k]? = some x := ⟨_, List.getElem?_eq_getElem (by rw [HN.out]; exact hlt)⟩
      have hc := HX.out k x hx
      have hc2 : wr.cell? ⟨q, k, none⟩ = some (.string (mk8 x)) := by
        have h1 := hon.out.block q (block_lt_of_cell hc) HQ.out
        unfold World.cell? at hc ⊢
        rw [h1]
        exact hc
      have hdr : xs.drop k = x :: xs.drop (k + 1) := by
        rw [List.drop_eq_getElem_cons (by rw [HN.out]; exact hlt)]
        rw [List.getElem?_eq_getElem (by rw [HN.out]; exact hlt)] at hx
        rw [Option.some.inj hx]
      have HW : Hid (Gr.want ts (Gr.want1 ts s2 x) (xs.drop (k + 1)) = Gr.want ts s xs) := Lib.hid (by rw [← hwt.out, hdr]; rfl)
      have k1 : (0 : Int) ≤ (k : Int) := by omega
      have k2 : (k : Int) < (n : Int) := by omega
      have HP := want1_pos ts s2 x
      clear hx hc hdr hwt
      go_wp2_with fail
      refine (take_tok g ta tc ts s2 x wr hpa.out (by omega)).mono ?_
      rintro e w1 ⟨rfl, h1, ho1⟩
      obtain ⟨b, hb⟩ : ∃ b, b = Gr.isT ts s2 x := ⟨_, rfl⟩
      rw [← hb]
      have HBV : Hid (Gr.isT ts s2 x = b) := Lib.hid hb.symm
      have HO1 := Lib.hid (hon.out.trans ho1 fun _ _ h => h)
      have H1 := Lib.hid h1
      clear hb h1 ho1 hon hpa hc2
      cases b with
      | true =>
        have H2 : Hid (PAt w1 g ta tc ts (Gr.want1 ts s2 x)) := Lib.hid (by have h1 := H1.out; unfold Gr.take at h1; unfold Gr.want1; rw [HBV.out] at h1 ⊢; exact h1)
        clear H1
        go_wp2_with fail
        go_roundw
        case rel => exact ⟨k + 1, _, by omega, by go_num, by omega, HW, H2, HO1⟩
        case measure => simp [intOf]; omega
      | false =>
        have H2 : Hid (PAt w1 g ta tc ts s2) := Lib.hid (by have h1 := H1.out; unfold Gr.take at h1; rw [HBV.out] at h1; exact h1)
        have HF : Hid (Gr.want1 ts s2 x = Gr.PS.fail s2) := Lib.hid (by unfold Gr.want1; rw [HBV.out]; rfl)
        have c3 := cell_of_row w1 g 3 _ _ _ H2.out.row
        replace c3 : w1.cell? ⟨g, 3, none⟩ = some (.bool s2.bad) := c3
        have cf := fun i => frozen_of_row w1 g i _ _ H2.out.row
        clear H1
        go_wp2_with fail
        go_roundw
        case rel => exact ⟨k + 1, _, by omega, by go_num, by omega, HW, Lib.hid (by rw [HF.out]; exact H2.out.fail), Lib.hid (HO1.out.trans (Only.setCell w1 ⟨g, 3, none⟩ _) fun _ _ h => h)⟩
        case measure => simp [intOf]; omega
    · have d1 : decide ((k : Int) < (n : Int)) = false := decide_eq_false (by omega)
      have d1n : decide (k < n) = false := decide_eq_false hlt
      have HW : Hid (Gr.want ts s xs = s2) := Lib.hid (by rw [← hwt.out, List.drop_eq_nil_of_le (by rw [HN.out]; omega)]; rfl)
      have HPA := hpa
      have HON := hon
      clear hwt hpa hon
      go_wp2_with fail
      refine bodyPost_end (results_none rfl _ _ _) rfl ?_
      exact ⟨rfl, by rw [HW.out]; exact HPA.out, HON.out⟩
end Go.Proofs.YtljdphpbalioaaaGreatDoor
