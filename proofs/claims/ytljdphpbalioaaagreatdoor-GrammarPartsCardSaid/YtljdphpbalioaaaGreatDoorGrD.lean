/- Walk: the parser goes deeper. -/
import Derived.Test.YtljdphpbalioaaaGreatDoorGrC
namespace Go.Proofs.YtljdphpbalioaaaGreatDoor
open Go.RowKit

theorem PAt.deep {w : World} {g : Nat} {ta : Option Addr} {tc : Nat} {ts : List Tok} {s : PS} (h : PAt w g ta tc ts s) (d : Nat) : PAt (w.setCell ⟨g, 2, none⟩ (.int .i64 (d : Nat))) g ta tc ts ⟨s.pos, d, s.bad⟩ :=
  ⟨heap_setCell_same w g 2 _ _ _ h.row, h.toks.only (Only.setCell w ⟨g, 2, none⟩ _) fun k hk q hq => by rw [show k = g from hk]; exact h.ne q hq, h.cap, h.few, h.ne⟩

/-- what stands behind 'within': nothing was done, or the function was, one deeper -/
def WithinSays (w w' : World) (g : Nat) (ta : Option Addr) (tc : Nat) (ts : List Tok) (s : PS) (Post : World → PS → World → Prop) : Prop :=
  ((s.bad = true ∨ 90 < s.deep + 1) ∧ PAt w' g ta tc ts (Gr.PS.fail s) ∧ Only w w' (fun k => k = g)) ∨
  ((s.bad = false ∧ s.deep + 1 ≤ 90) ∧ ∃ w1 s2 w2, PAt w1 g ta tc ts ⟨s.pos, s.deep + 1, false⟩ ∧ Only w w1 (fun k => k = g) ∧ Post w1 s2 w2 ∧ PAt w' g ta tc ts ⟨s2.pos, s.deep, s2.bad⟩ ∧ Only w2 w' (fun k => k = g))

set_option maxRecDepth 20000 in
set_option maxHeartbeats 1600000 in
theorem within_tok (g : Nat) (ta : Option Addr) (tc : Nat) (ts : List Tok) (s : PS) (F : Nat) (caps : Array Value) (w : World) (h : PAt w g ta tc ts s) (hd : s.deep ≤ 1000) (hF : ∀ w', Sem.run Tryz.prog (callFunc F caps) w' = .ok (.enter F caps) w') (Post : World → PS → World → Prop)
    (hcall : ∀ w', s.bad = false → s.deep + 1 ≤ 90 → PAt w' g ta tc ts ⟨s.pos, s.deep + 1, false⟩ → Only w w' (fun k => k = g) → Calls Tryz.prog F caps w' fun e w2 => e = .returned (.tuple #[]) ∧ ∃ s2 : PS, s2.deep = s.deep + 1 ∧ PAt w2 g ta tc ts s2 ∧ Post w' s2 w2) :
    Calls Tryz.prog 68 #[.pointer (some ⟨g, 0, none⟩), .func (.func F) #[] caps] w fun e w' => e = .returned (.tuple #[]) ∧ WithinSays w w' g ta tc ts s Post := by
  have H := Lib.hid h
  have HC := Lib.hid hcall
  have c2 := cell_of_row w g 2 _ _ _ h.row
  have c3 := cell_of_row w g 3 _ _ _ h.row
  have cf := fun i => frozen_of_row w g i _ _ h.row
  replace c2 : w.cell? ⟨g, 2, none⟩ = some (.int .i64 (s.deep : Nat)) := c2
  replace c3 : w.cell? ⟨g, 3, none⟩ = some (.bool s.bad) := c3
  have hw2 : IntKind.i64.wrap ((s.deep : Int) + 1) = ((s.deep + 1 : Nat) : Int) := by rw [IntKind.wrap_i64]; omega
  have hw1 : wrap64 ((s.deep : Int) + 1) = ((s.deep + 1 : Nat) : Int) := by unfold wrap64; omega
  clear h hcall
  go_enter Tryz.func68, Tryz.ntmps68
  go_upto_region 1 with fail
  have hp1 : PAt (w.setCell ⟨g, 2, none⟩ (.int .i64 ((s.deep : Int) + 1))) g ta tc ts ⟨s.pos, s.deep + 1, s.bad⟩ := H.out.deep (s.deep + 1)
  have ho1 := Only.setCell w ⟨g, 2, none⟩ (.int .i64 ((s.deep : Int) + 1))
  generalize w.setCell ⟨g, 2, none⟩ (.int .i64 ((s.deep : Int) + 1)) = w1 at *
  have d2 := cell_of_row w1 g 2 _ _ _ hp1.row
  have d3 := cell_of_row w1 g 3 _ _ _ hp1.row
  have df := fun i => frozen_of_row w1 g i _ _ hp1.row
  replace d2 : w1.cell? ⟨g, 2, none⟩ = some (.int .i64 ((s.deep + 1 : Nat) : Int)) := d2
  replace d3 : w1.cell? ⟨g, 3, none⟩ = some (.bool s.bad) := d3
  have HP1 := Lib.hid hp1
  have HO1 := Lib.hid ho1
  obtain ⟨D, hD⟩ : ∃ q, q = s.deep + 1 := ⟨_, rfl⟩
  rw [← hD] at d2
  have HD := Lib.hid hD
  have hm1 : IntKind.i64.wrap ((D : Int) - 1) = ((s.deep : Nat) : Int) := by rw [IntKind.wrap_i64]; omega
  have hm2 : wrap64 ((D : Int) - 1) = ((s.deep : Nat) : Int) := by unfold wrap64; omega
  have hm3 : (D : Int) - 1 = ((s.deep : Nat) : Int) := by omega
  have hm4 : wrap64 ((s.deep : Nat) : Int) = ((s.deep : Nat) : Int) := by unfold wrap64; omega
  clear hp1 ho1 c2 c3 cf hw1 hw2 H hD
  obtain ⟨p, d, b⟩ := s
  replace d3 : w1.cell? ⟨g, 3, none⟩ = some (.bool b) := d3
  by_cases h90 : D ≤ 90
  · have e1 : decide ((90 : Int) < (D : Int)) = false := decide_eq_false (by omega)
    have e2 : decide (90 < D) = false := decide_eq_false (by omega)
    cases b with
    | false =>
      go_wp2_with fail
      refine (HC.out w1 (by first | trivial | rfl) (show d + 1 ≤ 90 by have : D = d + 1 := HD.out; omega) HP1.out HO1.out).mono ?_
      rintro e w2 ⟨rfl, s2, hd2, hp2, hpost⟩
      have f2 := cell_of_row w2 g 2 _ _ _ hp2.row
      replace f2 : w2.cell? ⟨g, 2, none⟩ = some (.int .i64 (s2.deep : Nat)) := f2
      rw [hd2] at f2
      replace f2 : w2.cell? ⟨g, 2, none⟩ = some (.int .i64 ((d + 1 : Nat) : Int)) := f2
      rw [← (show D = d + 1 from HD.out)] at f2
      have ff := fun i => frozen_of_row w2 g i _ _ hp2.row
      have HP2 := Lib.hid hp2
      have HPO := Lib.hid hpost
      clear hp2 hpost d2 d3 df
      go_wp2_with fail
      refine bodyPost_end (results_none rfl _ _ _) rfl ?_
      exact ⟨rfl, .inr ⟨⟨rfl, show d + 1 ≤ 90 by have : D = d + 1 := HD.out; omega⟩, w1, s2, w2, HP1.out, HO1.out, HPO.out, HP2.out.deep d, Only.setCell w2 ⟨g, 2, none⟩ _⟩⟩
    | true =>
      go_wp2_with fail
      refine bodyPost_end (results_none rfl _ _ _) rfl ?_
      exact ⟨rfl, .inl ⟨.inl rfl, HP1.out.deep d, HO1.out.trans (Only.setCell w1 ⟨g, 2, none⟩ _) fun _ _ h => h⟩⟩
  · have e1 : decide ((90 : Int) < (D : Int)) = true := decide_eq_true (by omega)
    have e2 : decide (90 < D) = true := decide_eq_true (by omega)
    have hp3 := HP1.out.fail
    have d2s : (w1.setCell ⟨g, 3, none⟩ (.bool true)).cell? ⟨g, 2, none⟩ = some (.int .i64 (D : Nat)) := by
      have := cell_of_row _ g 2 _ _ _ hp3.row
      rw [show D = d + 1 from HD.out]
      exact this
    have dfs := fun i => frozen_of_row _ g i _ _ hp3.row
    have HP3 := Lib.hid hp3
    clear hp3
    go_wp2_with fail
    refine bodyPost_end (results_none rfl _ _ _) rfl ?_
    exact ⟨rfl, .inl ⟨.inr (show 90 < d + 1 by have : D = d + 1 := HD.out; omega), HP3.out.deep d, (HO1.out.trans (Only.setCell w1 ⟨g, 3, none⟩ _) fun _ _ h => h).trans (Only.setCell _ ⟨g, 2, none⟩ _) fun _ _ h => h⟩⟩
end Go.Proofs.YtljdphpbalioaaaGreatDoor
