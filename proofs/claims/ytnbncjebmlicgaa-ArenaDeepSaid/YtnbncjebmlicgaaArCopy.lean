/- Walk: Copy; what a nil arena answers. -/
import Derived.Test.YtnbncjebmlicgaaArTree
import Derived.Shelf.SlMaps.Clone
namespace Go.Proofs.Ytnbncjebmlicgaa
open Go.RowKit

set_option maxRecDepth 10000 in
set_option maxHeartbeats 800000 in
theorem mapclone_any (b : Nat) (es : Array MapEntry) (clock : Nat) (w : World) (hb : w.heap[b]? = some (.map es clock)) :
    Calls Try.prog 38 #[.map (some b)] w fun e w' => e = .returned (.map (some w.heap.size)) ∧ w' = w.alloc (.map es clock) := by
  have hq := fun w => run_eql_map_nil_sl (P := Try.prog) w 68 _ _ (some b) Try.underlying68
  go_enter Try.func38, Try.ntmps38
  go_wp2
  rw [run_callFunc_extern Try.func62 (by kernel_rfl) (by kernel_rfl) (by kernel_rfl) (e := Extern.MapsClone.clone) (by kernel_rfl), run_maps_clone_sl w 68 hb]
  simp only [Result.andThen]
  rw [Oper.upon_value]
  go_wp2
  rw [run_typeAssert_map_sl _ 68 20 _ _ _ Try.underlying68]
  simp only [Result.andThen]
  rw [Oper.upon_value]
  go_wp2
  go_ret
  exact ⟨rfl, rfl⟩

set_option maxRecDepth 10000 in
theorem arcopy_nil (w : World) : Calls Try.prog 14 #[.pointer none] w fun e w' => e = .returned (.pointer none) ∧ w' = w := by
  go_enter Try.func14, Try.ntmps14
  go_wp2
  go_ret
  exact ⟨rfl, rfl⟩

set_option maxRecDepth 10000 in
set_option maxHeartbeats 800000 in
theorem arcopy_any (g b : Nat) (l : List (Nat × Nd)) (w : World) (h : ArAt w g b l) :
    Calls Try.prog 14 #[.pointer (some ⟨g, 0, none⟩)] w fun e w' => ∃ g' b', e = .returned (.pointer (some ⟨g', 0, none⟩)) ∧ ArAt w' g' b' l ∧ w.heap.size ≤ g' ∧ w.heap.size ≤ b' ∧ Below w.heap.size w w' := by
  have c0 := h.c0
  obtain ⟨vl, h1, h2⟩ := h.ex
  obtain ⟨es, clock, hb, F, hs, hD⟩ := h1.1
  have hb1 := bal (bre w) (.map es clock)
  have hm : MapU Try.prog 26 (w.alloc (.map es clock)) w.heap.size vl := ⟨⟨es, clock, (MapKept.heap_alloc w _).1, F, hs, hD⟩, h1.2⟩
  have HM := Lib.hid hm
  have HB1 := Lib.hid hb1
  have HST := Lib.hid h2
  have HB := Lib.hid hb
  have HNF := Lib.hid (And.intro h.nz h.few)
  clear h h1 h2 hb F hs hD hb1 hm
  go_enter Try.func14, Try.ntmps14
  go_wp2_with fail
  refine (mapclone_any b es clock w HB.out).mono ?_
  rintro e w1 ⟨rfl, rfl⟩
  go_wp2_with fail
  go_ret
  have hb2 := bal HB1.out (.cells #[.map (some w.heap.size)] 70)
  exact ⟨_, w.heap.size, rfl, ⟨(two_new w _ _).2, ⟨vl, HM.out.below (bal (bre _) _), HST.out.mono fun v n hn => hn.below hb2⟩, HNF.out.1, HNF.out.2⟩, by omega, Nat.le_refl _, hb2⟩

set_option maxRecDepth 10000 in
set_option maxHeartbeats 800000 in
theorem artree_nil (w : World) : Calls Try.prog 12 #[.pointer none] w fun e w' => e = .returned (.bool false) ∧ Below w.heap.size w w' := by
  go_enter Try.func12, Try.ntmps12
  go_wp2_with fail
  refine (arroot_nil w).mono ?_
  rintro e w0 ⟨rfl, hw⟩
  have hw' := hw.symm
  subst hw'
  clear hw
  go_wp2_with fail
  refine (arget_nil 0 w).mono ?_
  rintro e w1 ⟨rfl, hb1⟩
  have HB := Lib.hid hb1
  clear hb1
  unfold NdVal Nd.zero
  go_wp2_with fail
  go_ret
  exact ⟨rfl, bal HB.out _⟩

set_option maxRecDepth 10000 in
set_option maxHeartbeats 800000 in
theorem arabove_nil (x kind : Nat) (w : World) (hx' : x < 18446744073709551616) : Calls Try.prog 13 #[.pointer none, .int .u64 x, .int .u8 kind] w fun e w' => e = .returned (.int .u64 0) ∧ Below w.heap.size w w' := by
  have hmm := @run_makeMap Try.prog
  have hb0 := bal (bre w) (.map #[] 0)
  have HB0 := Lib.hid hb0
  by_cases hx : x = 0
  · subst hx
    clear hb0
    go_enter Try.func13, Try.ntmps13
    go_wp2_with fail
    refine wp_loop_rounds 1 ?_
    rw [rounds_succ]
    go_wp2_with fail
    go_ret
    exact ⟨rfl, HB0.out⟩
  · have q1 : ((x : Int) == 0) = false := beq_false_of_ne (by omega)
    have q2 : decide ((x : Int) = 0) = false := decide_eq_false (by omega)
    have q3 : ((x : Int) != 0) = true := by rw [bne, q1]; rfl
    have q4 : ¬ (x : Int) = 0 := by omega
    have hx64 : x < 18446744073709551616 := hx'
    have hlk := (MapU.new (P := Try.prog) (k := 26) w).look1 (t := 74) Try.underlying26 Try.underlying74 (z := .bool false) (by kernel_rfl) x hx64
    replace hlk : (Instr.lookup 74 (.map (some w.heap.size)) (.int .u64 x) false).run Try.prog (w.alloc (.map #[] 0)) = .ok (.bool false) (w.alloc (.map #[] 0)) := hlk
    clear hb0 hx hx64 hx'
    go_enter Try.func13, Try.ntmps13
    go_wp2_with fail
    go_loopw [1, 8, 9] (fun i _ _ wr => i = .int .u64 x ∧ wr = w.alloc (.map #[] 0)) (fun _ _ _ _ => 0)
    case atStart => exact ⟨rfl, rfl⟩
    case round =>
      obtain ⟨rfl, rfl⟩ := hrel
      go_wp2_with fail
      refine (arget_nil x _).mono ?_
      rintro e w1 ⟨rfl, hb1⟩
      have HB1 := Lib.hid (btr HB0.out hb1)
      clear hb1
      unfold NdVal Nd.zero
      go_wp2_with fail
      go_ret
      exact ⟨rfl, bal HB1.out _⟩

set_option maxRecDepth 10000 in
theorem arids_nil (w : World) : Calls Try.prog 23 #[.pointer none] w fun e w' => e = .returned (.slice none 0 0) ∧ w' = w := by
  go_enter Try.func23, Try.ntmps23
  go_wp2
  go_ret
  exact ⟨rfl, rfl⟩
set_option maxRecDepth 10000 in
theorem arbytes_nil (w : World) : Calls Try.prog 30 #[.pointer none] w fun e w' => e = .returned (.slice none 0 0) ∧ w' = w := by
  go_enter Try.func30, Try.ntmps30
  go_wp2
  go_ret
  exact ⟨rfl, rfl⟩
end Go.Proofs.Ytnbncjebmlicgaa
