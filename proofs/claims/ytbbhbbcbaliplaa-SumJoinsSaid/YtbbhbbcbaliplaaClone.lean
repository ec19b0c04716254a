/- Walks: bytes.Clone, bytes.Equal. -/
import Derived.Test.YtbbhbbcbaliplaaChecked
import Derived.Test.YtbbhbbcbaliplaaCut
import Derived.Laws.BytesString
namespace Go.Proofs.Ytbbhbbcbaliplaa
open Go.RowKit

set_option maxRecDepth 10000 in
set_option maxHeartbeats 400000 in
theorem clone_any (v : Value) (p : List UInt8) (w : World) (hv : Bytes w v p) (hbig : p.length ≤ 140737488355328) :
    Calls Try.prog 19 #[v] w fun e w' => ∃ v', e = .returned v' ∧ Own8 5 w.heap.size w' v' p ∧ Below w.heap.size w w' := by
  obtain ⟨a, c, rfl, hm, hc, hnil, hrow⟩ := id hv
  have HR := Lib.hid hrow
  clear hrow
  have hb : Below w.heap.size w (w.alloc (.cells #[] 5)) := (Below.refl _ _).alloc (Nat.le_refl _) _
  have hv2 : Bytes (w.alloc (.cells #[] 5)) (.slice a p.length c) p := hv.below hb
  have hown : Own8 5 w.heap.size (w.alloc (.cells #[] 5)) (.slice (some ⟨w.heap.size, 0, none⟩) 0 0) [] := World.ownsRow_made w #[] 0 (Nat.le_refl _) (by simp [maxLen]) (by simp)
  have he := fun (w : World) (a : Option Addr) (n c n' c' : Nat) => Lib.run_eql_slice_nil (P := Try.prog) w 22 5 a n c n' c' Try.underlying22
  cases a with
  | none =>
    have hc0 := hnil rfl
    subst hc0
    have hp : p = [] := List.length_eq_zero_iff.1 (by omega)
    subst hp
    go_enter Try.func19, Try.ntmps19
    go_wp2
    go_ret
    exact ⟨_, rfl, Own8.nil _ _ _, Below.refl _ _⟩
  | some ad =>
    go_enter Try.func19, Try.ntmps19
    go_wp2_with (at_builtin; refine wpList_app8 rfl _ _ 22 5 row8 rfl w.heap.size _ [] rfl hown _ p rfl hv2 (by simpa using hbig) (by exact hb.size) ?_; intro v' w1 h1 _ h3)
    go_ret
    exact ⟨_, rfl, h1, hb.trans h3⟩

set_option maxRecDepth 10000 in
set_option maxHeartbeats 400000 in
theorem equal_any (v u : Value) (p q : List UInt8) (w : World) (hv : Bytes w v p) (hq : Bytes w u q) :
    Calls Try.prog 20 #[v, u] w fun e w' => e = .returned (.bool (decide (p = q))) ∧ w' = w := by
  have h1 := run_str (P := Try.prog) w 22 9 5 v p hv Try.underlying22 Try.underlying5 Try.underlying9
  have h2 := run_str (P := Try.prog) w 22 9 5 u q hq Try.underlying22 Try.underlying5 Try.underlying9
  generalize hs : strOf p = s at *
  generalize ht : strOf q = t at *
  have HS := Lib.hid hs
  have HT := Lib.hid ht
  clear hs ht hv hq
  go_enter Try.func20, Try.ntmps20
  go_wp2
  go_ret
  refine ⟨?_, rfl⟩
  show Ending.returned (.bool (s.toList == t.toList)) = _
  rw [← HS.out, ← HT.out, strOf_toList, strOf_toList]
  congr 2
  rw [Bool.eq_iff_iff]
  simp

end Go.Proofs.Ytbbhbbcbaliplaa
