/- Walks: a disk; which sectors are there; what may still be done. -/
import Derived.Test.YtacfkhnajdneeaaDoorChecked
import Derived.Test.YtacfkhnajdneeaaDoorPreA
namespace Go.Proofs.YtacfkhnajdneeaaDoor
open Go.RowKit

/-- a disk -/
structure Dk where
  safe : List (List UInt8)
  wait : List (Nat × List UInt8)
  count : Nat
  bound : Bool
  left : Int

structure Dk.Ok (d : Dk) : Prop where
  safe : ∀ s ∈ d.safe, s.length = 512
  wait : ∀ x ∈ d.wait, x.2.length = 512 ∧ x.1 < d.safe.length
  few : d.safe.length ≤ 4096

def secCells (s : List UInt8) : List Value := s.map B8
def wrCells (x : Nat × List UInt8) : List Value := .int .i64 x.1 :: x.2.map B8
theorem Dk.Ok.secs {d : Dk} (h : d.Ok) : ∀ s ∈ d.safe, (secCells s).length = 512 := fun s hs => by unfold secCells; rw [List.length_map]; exact h.safe s hs
theorem Dk.Ok.wrs {d : Dk} (h : d.Ok) : ∀ x ∈ d.wait, (wrCells x).length = 513 := fun x hx => by unfold wrCells; rw [List.length_cons, List.length_map, (h.wait x hx).1]

theorem rowS : RowTy Tryd.prog 93 104 512 512 := RowTy.mk' (z := .agg (Array.replicate 512 (.int .u8 0))) Tryd.underlying93 (by kernel_rfl) (by simp [Value.cells]) (by omega)
theorem rowW : RowTy Tryd.prog 94 106 513 520 := RowTy.mk' (z := .agg (#[.int .i64 0] ++ Array.replicate 512 (.int .u8 0))) Tryd.underlying94 (by kernel_rfl) (by simp [Value.cells]) (by omega)

/-- a disk that lies at g, in the blocks F -/
def DiskAt (w : World) (g : Nat) (d : Dk) (F : Nat → Prop) : Prop :=
  d.Ok ∧ ∃ vs vw, w.heap[g]? = some (.cells #[vs, vw, .int .i64 d.count, .bool d.bound, .int .i64 d.left] 96 (0, 0)) ∧
    w.ownsRow 0 104 512 vs d.safe.length (d.safe.flatMap secCells) ∧ w.ownsRow 0 106 513 vw d.wait.length (d.wait.flatMap wrCells) ∧
    ∀ k, F k ↔ (k = g ∨ vs.ownBlock = some k ∨ vw.ownBlock = some k)

theorem DiskAt.lt {w : World} {g : Nat} {d : Dk} {F : Nat → Prop} (h : DiskAt w g d F) : ∀ k, F k → k < w.heap.size := by
  obtain ⟨_, vs, vw, h1, h2, h3, h4⟩ := h
  intro k hk
  rcases (h4 k).1 hk with rfl | hk | hk
  · exact (Array.getElem?_eq_some_iff.1 h1).1
  · exact (World.ownsRow.lt h2 k hk).2
  · exact (World.ownsRow.lt h3 k hk).2

theorem DiskAt.only {w w' : World} {g : Nat} {d : Dk} {F S : Nat → Prop} (h : DiskAt w g d F) (ho : Only w w' S) (hs : ∀ k, F k → ¬ S k) : DiskAt w' g d F := by
  obtain ⟨h0, vs, vw, h1, h2, h3, h4⟩ := h
  exact ⟨h0, vs, vw, (ho.block g (Array.getElem?_eq_some_iff.1 h1).1 (hs g ((h4 g).2 (.inl rfl)))).trans h1, own_only h2 ho (fun k hk => hs k ((h4 k).2 (.inr (.inl hk)))),
    own_only h3 ho (fun k hk => hs k ((h4 k).2 (.inr (.inr hk)))), h4⟩
theorem DiskAt.below {w w' : World} {g : Nat} {d : Dk} {F : Nat → Prop} (h : DiskAt w g d F) (hb : Below w.heap.size w w') : DiskAt w' g d F :=
  h.only (Only.of_below hb fun _ => False) fun _ _ => id
theorem DiskAt.g {w : World} {g : Nat} {d : Dk} {F : Nat → Prop} (h : DiskAt w g d F) : F g := by
  obtain ⟨_, vs, vw, h1, h2, h3, h4⟩ := h
  exact (h4 g).2 (.inl rfl)
theorem DiskAt.ok {w : World} {g : Nat} {d : Dk} {F : Nat → Prop} (h : DiskAt w g d F) : d.Ok := h.1

theorem row5 {w : World} {g T : Nat} {a b c d e : Value} (h : w.heap[g]? = some (.cells #[a, b, c, d, e] T (0, 0))) :
    w.cell? ⟨g, 0, none⟩ = some a ∧ w.cell? ⟨g, 1, none⟩ = some b ∧ w.cell? ⟨g, 2, none⟩ = some c ∧ w.cell? ⟨g, 3, none⟩ = some d ∧ w.cell? ⟨g, 4, none⟩ = some e ∧ ∀ o, w.frozen? ⟨g, o, none⟩ = false :=
  ⟨cell_of_row w g 0 _ _ _ h, cell_of_row w g 1 _ _ _ h, cell_of_row w g 2 _ _ _ h, cell_of_row w g 3 _ _ _ h, cell_of_row w g 4 _ _ _ h, fun o => frozen_of_row w g o _ _ h⟩

/-- its numbers turned -/
theorem DiskAt.turn {w w' : World} {g : Nat} {d : Dk} {F : Nat → Prop} (h : DiskAt w g d F) (ho : Only w w' (fun k => k = g)) (count : Nat) (bound : Bool) (left : Int)
    (hr : ∀ vs vw, w.heap[g]? = some (.cells #[vs, vw, .int .i64 d.count, .bool d.bound, .int .i64 d.left] 96 (0, 0)) → w'.heap[g]? = some (.cells #[vs, vw, .int .i64 count, .bool bound, .int .i64 left] 96 (0, 0))) :
    DiskAt w' g ⟨d.safe, d.wait, count, bound, left⟩ F ∧ Moved w w' F F := by
  obtain ⟨h0, vs, vw, h1, h2, h3, h4⟩ := h
  refine ⟨⟨⟨h0.safe, h0.wait, h0.few⟩, vs, vw, hr vs vw h1, own_only h2 ho (fun k hk e => ?_), own_only h3 ho (fun k hk e => ?_), h4⟩, ⟨ho.mono fun i _ e => (h4 i).2 (.inl e), fun k hk => .inl hk⟩⟩
  · subst e; exact own_ne h2 h1 (by decide) hk
  · subst e; exact own_ne h3 h1 (by decide) hk

set_option maxRecDepth 10000 in
set_option maxHeartbeats 400000 in
theorem there_any (g : Nat) (d : Dk) (F : Nat → Prop) (i : Int) (w : World) (h : DiskAt w g d F) :
    Calls Tryd.prog 62 #[.pointer (some ⟨g, 0, none⟩), .int .i64 i] w fun e w' => e = .returned (.int .i64 (if 0 ≤ i ∧ i < d.safe.length then 0 else 6)) ∧ w' = w := by
  obtain ⟨h0, vs, vw, h1, h2, h3, h4⟩ := h
  obtain ⟨a, c, rfl, hc, hm, _⟩ := ownsRow_lies h2
  obtain ⟨c0, _, _, _, _, _⟩ := row5 h1
  have hfew := h0.few
  clear h1 h2 h3 h4 h0
  by_cases hi : 0 ≤ i ∧ i < d.safe.length
  · rw [if_pos hi]
    obtain ⟨hi1, hi2⟩ := hi
    go_enter Tryd.func62, Tryd.ntmps62
    go_wp2
    go_ret
    exact ⟨rfl, rfl⟩
  · rw [if_neg hi]
    rcases (by omega : i < 0 ∨ (0 ≤ i ∧ (d.safe.length : Int) ≤ i)) with h | ⟨h, h'⟩
    all_goals
      go_enter Tryd.func62, Tryd.ntmps62
      go_wp2
      go_ret
      exact ⟨rfl, rfl⟩

set_option maxRecDepth 10000 in
theorem there_nil (i : Int) (w : World) :
    Calls Tryd.prog 62 #[.pointer none, .int .i64 i] w fun e w' => e = .returned (.int .i64 3) ∧ w' = w := by
  go_enter Tryd.func62, Tryd.ntmps62
  go_wp2
  go_ret
  exact ⟨rfl, rfl⟩

/-- may one thing more be done? -/
def Dk.may (d : Dk) : Bool := !(d.bound && d.left == 0)
def Dk.spent (d : Dk) : Dk := if d.may && d.bound then ⟨d.safe, d.wait, d.count, d.bound, d.left - 1⟩ else d

set_option maxRecDepth 10000 in
set_option maxHeartbeats 400000 in
theorem spend_any (g : Nat) (d : Dk) (F : Nat → Prop) (w : World) (h : DiskAt w g d F) (hl0 : -9223372036854775808 < d.left) (hl1 : d.left ≤ 9223372036854775807) :
    Calls Tryd.prog 63 #[.pointer (some ⟨g, 0, none⟩)] w fun e w' => e = .returned (.bool d.may) ∧ DiskAt w' g d.spent F ∧ Moved w w' F F ∧ Only w w' (fun k => k = g) := by
  have HD := Lib.hid h
  obtain ⟨h0, vs, vw, h1, h2, h3, h4⟩ := h
  obtain ⟨_, _, _, c3, c4, fr⟩ := row5 h1
  have H1 := Lib.hid h1
  clear h1 h2 h3 h4 h0
  unfold Dk.spent Dk.may
  cases hb : d.bound with
  | false =>
    rw [hb] at c3
    simp only [Bool.false_and, Bool.not_false, Bool.and_false, Bool.false_eq_true, if_false]
    go_enter Tryd.func63, Tryd.ntmps63
    go_wp2
    go_ret
    exact ⟨rfl, HD.out, Moved.refl _ _, Only.refl _ _⟩
  | true =>
    rw [hb] at c3
    by_cases hl : d.left = 0
    · rw [hl] at c4
      simp only [hl, Bool.true_and, beq_self_eq_true, Bool.not_true, Bool.false_and, Bool.false_eq_true, if_false]
      go_enter Tryd.func63, Tryd.ntmps63
      go_wp2
      go_ret
      exact ⟨rfl, HD.out, Moved.refl _ _, Only.refl _ _⟩
    · have hlb : (d.left == 0) = false := by simpa using hl
      have hq := HD.out.turn (w' := w.setCell ⟨g, 4, none⟩ (.int .i64 (d.left - 1))) (Only.setCell _ _ _) d.count true (d.left - 1) (fun vs vw hr => by
        rw [hb] at hr
        exact heap_setCell_same w g 4 _ _ _ hr)
      have HQ := Lib.hid hq
      simp only [hlb, Bool.and_false, Bool.not_false, Bool.and_self, if_true]
      clear hq
      go_enter Tryd.func63, Tryd.ntmps63
      go_wp2
      go_ret
      exact ⟨rfl, HQ.out.1, HQ.out.2, Only.setCell _ _ _⟩

set_option maxRecDepth 10000 in
theorem writes_any (g : Nat) (d : Dk) (F : Nat → Prop) (w : World) (h : DiskAt w g d F) :
    Calls Tryd.prog 28 #[.pointer (some ⟨g, 0, none⟩)] w fun e w' => e = .returned (.int .i64 d.count) ∧ w' = w := by
  obtain ⟨h0, vs, vw, h1, h2, h3, h4⟩ := h
  obtain ⟨_, _, c2, _, _, _⟩ := row5 h1
  clear h1 h2 h3 h4 h0
  go_enter Tryd.func28, Tryd.ntmps28
  go_wp2
  go_ret
  exact ⟨rfl, rfl⟩

set_option maxRecDepth 10000 in
theorem sectors_any (g : Nat) (d : Dk) (F : Nat → Prop) (w : World) (h : DiskAt w g d F) :
    Calls Tryd.prog 35 #[.pointer (some ⟨g, 0, none⟩)] w fun e w' => e = .returned (.int .i64 d.safe.length) ∧ w' = w := by
  obtain ⟨h0, vs, vw, h1, h2, h3, h4⟩ := h
  obtain ⟨a, c, rfl, hc, hm, _⟩ := ownsRow_lies h2
  obtain ⟨c0, _, _, _, _, _⟩ := row5 h1
  clear h1 h2 h3 h4 h0
  go_enter Tryd.func35, Tryd.ntmps35
  go_wp2
  go_ret
  exact ⟨rfl, rfl⟩
end Go.Proofs.YtacfkhnajdneeaaDoor
