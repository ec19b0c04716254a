/- Walk: bytes.Clone. -/
import Derived.Test.YtminfdlhbecnhaaGreatDoorChecked
import Derived.Test.YtminfdlhbecnhaaGreatDoorCut
namespace Go.Proofs.YtminfdlhbecnhaaGreatDoor
open Go.RowKit

set_option maxRecDepth 10000 in
set_option maxHeartbeats 400000 in
theorem clone_any (v : Value) (p : List UInt8) (w : World) (hv : Bytes w v p) (hbig : p.length ≤ 140737488355328) :
    Calls Tryz.prog 49 #[v] w fun e w' => ∃ v', e = .returned v' ∧ Own8 5 w.heap.size w' v' p ∧ Below w.heap.size w w' := by
  obtain ⟨a, c, rfl, hm, hc, hnil, hrow⟩ := id hv
  have HR := Lib.hid hrow
  clear hrow
  have hb : Below w.heap.size w (w.alloc (.cells #[] 5)) := (Below.refl _ _).alloc (Nat.le_refl _) _
  have hv2 : Bytes (w.alloc (.cells #[] 5)) (.slice a p.length c) p := hv.below hb
  have hown : Own8 5 w.heap.size (w.alloc (.cells #[] 5)) (.slice (some ⟨w.heap.size, 0, none⟩) 0 0) [] := World.ownsRow_made w #[] 0 (Nat.le_refl _) (by simp [maxLen]) (by simp)
  have he := fun (w : World) (a : Option Addr) (n c n' c' : Nat) => Lib.run_eql_slice_nil (P := Tryz.prog) w 26 5 a n c n' c' Tryz.underlying26
  cases a with
  | none =>
    have hc0 := hnil rfl
    subst hc0
    have hp : p = [] := List.length_eq_zero_iff.1 (by omega)
    subst hp
    go_enter Tryz.func49, Tryz.ntmps49
    go_wp2
    go_ret
    exact ⟨_, rfl, Own8.nil _ _ _, Below.refl _ _⟩
  | some ad =>
    go_enter Tryz.func49, Tryz.ntmps49
    go_wp2_with (at_builtin; refine wpList_app8 rfl _ _ 26 5 row8 rfl w.heap.size _ [] rfl hown _ p rfl hv2 (by simpa using hbig) (by exact hb.size) ?_; intro v' w1 h1 _ h3)
    go_ret
    exact ⟨_, rfl, h1, hb.trans h3⟩

end Go.Proofs.YtminfdlhbecnhaaGreatDoor
