/- Walks: a reader of bytes: fail, wrong, take. -/
import Derived.Test.YtminfdlhbecnhaaGreatDoorChecked
import Derived.Test.YtminfdlhbecnhaaGreatDoorApp
import Derived.Test.YtminfdlhbecnhaaGreatDoorClone
namespace Go.Proofs.YtminfdlhbecnhaaGreatDoor
open Go.RowKit

/-- a reader, and what is left of its bytes; none: it isn't right any more, or there is no reader -/
def RdAt (B : Nat) (w : World) (v : Value) (o : Option (List UInt8)) : Prop :=
  (v = .pointer none ∧ o = none) ∨ ∃ g u, v = .pointer (some ⟨g, 0, none⟩) ∧ g < B ∧
    ((o = none ∧ w.heap[g]? = some (.cells #[.slice none 0 0, .bool true] 91 (0, 0))) ∨
     ∃ l, o = some l ∧ w.heap[g]? = some (.cells #[u, .bool false] 91 (0, 0)) ∧ Bytes w u l ∧ ∀ k i n c, l ≠ [] → u = .slice (some ⟨k, i, none⟩) n c → k < B)

/-- only the reader has turned -/
def Turned (w w' : World) (v : Value) : Prop := Only w w' (fun k => v = .pointer (some ⟨k, 0, none⟩))
theorem Turned.refl (w : World) (v : Value) : Turned w w v := Only.refl _ _
theorem Turned.trans {a b c : World} {v : Value} (h : Turned a b v) (k : Turned b c v) : Turned a c v := Only.trans h k fun _ _ h => h

theorem Bytes.only {w w' : World} {S : Nat → Prop} {u : Value} {l : List UInt8} (h : Bytes w u l) (ho : Only w w' S) (hs : ∀ g o n c, l ≠ [] → u = .slice (some ⟨g, o, none⟩) n c → ¬ S g) : Bytes w' u l := by
  obtain ⟨a, c, rfl, h1, h2, h3, h4⟩ := h
  refine ⟨a, c, rfl, h1, h2, h3, ?_⟩
  by_cases hl : l = []
  · exact .inl hl
  · rcases h4 with h4 | ⟨g, o, rfl, h4⟩
    · exact .inl h4
    · refine .inr ⟨g, o, rfl, fun j x hx => ?_⟩
      obtain ⟨y, hy, hr⟩ := h4 j x hx
      exact ⟨y, (World.cell?_of_block (a := ⟨g, o + j, none⟩) (ho.block g (block_lt_of_cell hy) (hs _ _ _ _ hl rfl))).trans hy, hr⟩


/-- a reader's two fields, turned both -/
theorem set_both {w : World} {g T : Nat} {x y : Value} (h : w.heap[g]? = some (.cells #[x, y] T (0, 0))) (x' y' : Value) :
    ((w.setCell ⟨g, 1, none⟩ y').setCell ⟨g, 0, none⟩ x').heap[g]? = some (.cells #[x', y'] T (0, 0)) := by
  have h1 : (w.setCell ⟨g, 1, none⟩ y').heap[g]? = some (.cells #[x, y'] T (0, 0)) := heap_setCell_same w g 1 _ _ y' h
  exact heap_setCell_same _ g 0 _ _ x' h1
theorem set_first {w : World} {g T : Nat} {x y : Value} (h : w.heap[g]? = some (.cells #[x, y] T (0, 0))) (x' : Value) :
    (w.setCell ⟨g, 0, none⟩ x').heap[g]? = some (.cells #[x', y] T (0, 0)) := heap_setCell_same w g 0 _ _ x' h

theorem Turned.set (w : World) (g o : Nat) (u : Value) : Turned w (w.setCell ⟨g, o, none⟩ u) (.pointer (some ⟨g, 0, none⟩)) :=
  (Only.setCell w ⟨g, o, none⟩ u).mono fun i _ h => by simp only at h; rw [h]

theorem cell_row {w : World} {g i T : Nat} {cs : Array Value} {fr : Nat × Nat} (h : w.heap[g]? = some (.cells cs T fr)) : w.cell? ⟨g, i, none⟩ = cs[i]? := by
  simp [World.cell?, h]

set_option maxRecDepth 10000 in
set_option maxHeartbeats 400000 in
theorem fail_any (B : Nat) (v : Value) (o : Option (List UInt8)) (w : World) (hr : RdAt B w v o) :
    Calls Tryz.prog 56 #[v] w fun e w' => e = .returned (.tuple #[]) ∧ RdAt B w' v none ∧ Turned w w' v := by
  rcases hr with ⟨rfl, rfl⟩ | ⟨g, u, rfl, hgB, hr⟩
  · go_enter Tryz.func56, Tryz.ntmps56
    go_wp2
    refine bodyPost_end (results_none rfl _ _ _) rfl ?_
    exact ⟨rfl, .inl ⟨rfl, rfl⟩, Turned.refl _ _⟩
  · obtain ⟨x, b, hg⟩ : ∃ x b, w.heap[g]? = some (.cells #[x, .bool b] 91 (0, 0)) := by
      rcases hr with ⟨_, h⟩ | ⟨_, _, h, _⟩
      · exact ⟨_, _, h⟩
      · exact ⟨_, _, h⟩
    clear hr
    have hc0 : w.cell? ⟨g, 0, none⟩ = some x := cell_of_row w g 0 _ _ _ hg
    have hc1 : w.cell? ⟨g, 1, none⟩ = some (.bool b) := cell_of_row w g 1 _ _ _ hg
    have hf0 := frozen_of_row w g 0 _ _ hg
    have hf1 := frozen_of_row w g 1 _ _ hg
    have HG := Lib.hid hg
    clear hg
    go_enter Tryz.func56, Tryz.ntmps56
    go_wp2_with fail
    refine bodyPost_end (results_none rfl _ _ _) rfl ?_
    exact ⟨rfl, .inr ⟨g, undef, rfl, hgB, .inl ⟨rfl, set_both HG.out _ _⟩⟩, (Turned.set w g 1 _).trans (Turned.set _ g 0 _)⟩

set_option maxRecDepth 10000 in
set_option maxHeartbeats 400000 in
theorem wrong_any (B : Nat) (v : Value) (o : Option (List UInt8)) (w : World) (hr : RdAt B w v o) :
    Calls Tryz.prog 55 #[v] w fun e w' => e = .returned (.bool o.isNone) ∧ w' = w := by
  rcases hr with ⟨rfl, rfl⟩ | ⟨g, u, rfl, hgB, hr⟩
  · go_enter Tryz.func55, Tryz.ntmps55
    go_wp2
    go_ret
    exact ⟨rfl, rfl⟩
  · obtain ⟨x, hg⟩ : ∃ x, w.heap[g]? = some (.cells #[x, .bool o.isNone] 91 (0, 0)) := by
      rcases hr with ⟨rfl, h⟩ | ⟨_, rfl, h, _⟩
      · exact ⟨_, h⟩
      · exact ⟨_, h⟩
    clear hr
    have hc1 : w.cell? ⟨g, 1, none⟩ = some (.bool o.isNone) := cell_of_row w g 1 _ _ _ hg
    clear hg
    generalize o.isNone = b at *
    go_enter Tryz.func55, Tryz.ntmps55
    go_wp2
    go_ret
    exact ⟨rfl, rfl⟩

/-- a byte off the front -/
def Rd.take : Option (List UInt8) → UInt8 × Option (List UInt8)
  | some (b :: l) => (b, some l)
  | _ => (0, none)

set_option maxRecDepth 10000 in
set_option maxHeartbeats 400000 in
theorem take_any (B : Nat) (v : Value) (o : Option (List UInt8)) (w : World) (hr : RdAt B w v o) :
    Calls Tryz.prog 54 #[v] w fun e w' => e = .returned (.int .u8 (Rd.take o).1.toNat) ∧ RdAt B w' v (Rd.take o).2 ∧ Turned w w' v := by
  have HR := Lib.hid hr
  rcases hr with ⟨rfl, rfl⟩ | ⟨g, u, rfl, hgB, ⟨rfl, hg⟩ | ⟨l, rfl, hg, hb, hbB⟩⟩
  · go_enter Tryz.func54, Tryz.ntmps54
    go_wp2_with (refine (fail_any B _ none w HR.out).mono ?_; rintro e w1 ⟨rfl, hr1, ht1⟩)
    go_ret
    exact ⟨rfl, hr1, ht1⟩
  · have hc0 : w.cell? ⟨g, 0, none⟩ = some (.slice none 0 0) := cell_of_row w g 0 _ _ _ hg
    have hc1 : w.cell? ⟨g, 1, none⟩ = some (.bool true) := cell_of_row w g 1 _ _ _ hg
    clear hg
    go_enter Tryz.func54, Tryz.ntmps54
    go_wp2_with (refine (fail_any B _ none w HR.out).mono ?_; rintro e w1 ⟨rfl, hr1, ht1⟩)
    go_ret
    exact ⟨rfl, hr1, ht1⟩
  · cases l with
    | nil =>
      have hc0 : w.cell? ⟨g, 0, none⟩ = some u := cell_of_row w g 0 _ _ _ hg
      have hc1 : w.cell? ⟨g, 1, none⟩ = some (.bool false) := cell_of_row w g 1 _ _ _ hg
      obtain ⟨a, c, rfl, _⟩ := hb
      clear hg
      go_enter Tryz.func54, Tryz.ntmps54
      go_wp2_with (refine (fail_any B _ (some []) w HR.out).mono ?_; rintro e w1 ⟨rfl, hr1, ht1⟩)
      go_ret
      exact ⟨rfl, hr1, ht1⟩
    | cons b l =>
      have hb' := hb
      obtain ⟨a, c, rfl, hm, hcap, _, h4⟩ := hb
      rcases h4 with h4 | ⟨k, i, rfl, h4⟩
      · cases h4
      obtain ⟨y, hy, rfl⟩ := h4 0 b rfl
      rw [Nat.add_zero] at hy
      have hkB : k < B := hbB k i _ _ (by simp) rfl
      clear hbB
      have hkg : k ≠ g := by
        rintro rfl
        rw [cell_row hg] at hy
        rcases i with _ | _ | i
        · cases hy
        · cases hy
        · simp at hy
      have hc0 : w.cell? ⟨g, 0, none⟩ = some (.slice (some ⟨k, i, none⟩) (l.length + 1) c) := cell_of_row w g 0 _ _ _ hg
      have hc1 : w.cell? ⟨g, 1, none⟩ = some (.bool false) := cell_of_row w g 1 _ _ _ hg
      have hf0 := frozen_of_row w g 0 _ _ hg
      have HG := Lib.hid hg
      have HB := Lib.hid hb'
      clear hg hb' h4
      simp only [List.length_cons] at hc0 hm hcap
      have hln : 0 < l.length + 1 := by omega
      go_enter Tryz.func54, Tryz.ntmps54
      go_wp2_with fail
      all_goals
        go_ret
        refine ⟨rfl, .inr ⟨g, _, rfl, hgB, .inr ⟨l, rfl, set_first HG.out _, ?_, fun k' i' n' c' _ e => by cases e; exact hkB⟩⟩, Turned.set w g 0 _⟩
        refine Bytes.only (S := fun k => k = g) ?_ (Only.setCell w _ _) (fun g' o n c' hl e => ?_)
        · have h := HB.out.suffix 1 (by simp)
          simp only [List.length_cons, List.drop_succ_cons, List.drop_zero, Nat.add_sub_cancel, Option.map_some, Addr.add_mid] at h
          first
            | (rw [if_neg (by assumption)] at h; exact h)
            | (subst c; exact h)
            | exact h
        · cases e
          exact hkg
end Go.Proofs.YtminfdlhbecnhaaGreatDoor
