/- Walks: a page's bytes refused; is a page full; are two alike. -/
import Derived.Test.YtejdlgfiiagcmaaDoorPBytes
namespace Go.Proofs.YtejdlgfiiagcmaaDoor
open Go.RowKit

set_option maxRecDepth 10000 in
set_option maxHeartbeats 800000 in
theorem pbytes_arg (v : Value) (p : Pg) (w : World) (hv : PgAt w v p) (hk : p.kind = 0) :
    Calls Tryd.prog 39 #[v] w fun e w' => e = .returned (.tuple #[.slice none 0 0, .int .i64 1]) ∧ Below w.heap.size w w' := by
  obtain ⟨vd, rfl, hvd⟩ := hv
  obtain ⟨ad, cd, rfl, hm, hc, -, -⟩ := id hvd
  have hk1 : ((p.kind : Int) == 0) = true := by rw [hk]; rfl
  have hk2 : decide ((p.kind : Int) = 0) = true := by rw [hk]; rfl
  clear hvd hk hm hc
  go_enter Tryd.func39, Tryd.ntmps39
  go_wp2_with fail
  go_ret2
  exact ⟨rfl, bal (bre w) _⟩

set_option maxRecDepth 10000 in
set_option maxHeartbeats 800000 in
theorem pbytes_long (v : Value) (p : Pg) (w : World) (hv : PgAt w v p) (hk : p.kind ≠ 0) (hd : 491 < p.data.length) :
    Calls Tryd.prog 39 #[v] w fun e w' => e = .returned (.tuple #[.slice none 0 0, .int .i64 4]) ∧ Below w.heap.size w w' := by
  obtain ⟨vd, rfl, hvd⟩ := hv
  obtain ⟨ad, cd, rfl, hm, hc, -, -⟩ := id hvd
  have hk1 : ((p.kind : Int) == 0) = false := beq_false_of_ne (by omega)
  have hk2 : decide ((p.kind : Int) = 0) = false := decide_eq_false (by omega)
  have hd1 : (491 : Int) < p.data.length := by omega
  clear hvd hk hm hc hd
  go_enter Tryd.func39, Tryd.ntmps39
  go_wp2_with fail
  go_ret2
  exact ⟨rfl, bal (bre w) _⟩

def pgSame (a b : Pg) : Bool := decide (a.gen = b.gen) && (decide (a.serial = b.serial) && (decide (a.number = b.number) && (decide (a.kind = b.kind) && decide (a.data = b.data))))

theorem eqI (a b : Nat) : ((a : Int) == (b : Int)) = decide (a = b) := by
  by_cases h : a = b
  · subst h; simp
  · rw [decide_eq_false h]; exact beq_false_of_ne (by omega)

set_option maxRecDepth 10000 in
set_option maxHeartbeats 1600000 in
theorem psame_any (u v : Value) (a b : Pg) (w : World) (hu : PgAt w u a) (hv : PgAt w v b) :
    Calls Tryd.prog 47 #[u, v] w fun e w' => e = .returned (.bool (pgSame a b)) ∧ Below w.heap.size w w' := by
  obtain ⟨ua, rfl, hua⟩ := hu
  obtain ⟨vb, rfl, hvb⟩ := hv
  obtain ⟨aa, ca, rfl, -, -, -, -⟩ := id hua
  obtain ⟨ab, cb, rfl, -, -, -, -⟩ := id hvb
  have HU := Lib.hid hua
  have HV := Lib.hid hvb
  clear hua hvb
  unfold pgSame
  rw [← eqI, ← eqI, ← eqI, ← eqI]
  obtain ⟨b1, h1⟩ : ∃ x, x = ((a.gen : Int) == (b.gen : Int)) := ⟨_, rfl⟩
  obtain ⟨b2, h2⟩ : ∃ x, x = ((a.serial : Int) == (b.serial : Int)) := ⟨_, rfl⟩
  obtain ⟨b3, h3⟩ : ∃ x, x = ((a.number : Int) == (b.number : Int)) := ⟨_, rfl⟩
  obtain ⟨b4, h4⟩ : ∃ x, x = ((a.kind : Int) == (b.kind : Int)) := ⟨_, rfl⟩
  rw [← h1, ← h2, ← h3, ← h4]
  have k1 := h1.symm
  have k2 := h2.symm
  have k3 := h3.symm
  have k4 := h4.symm
  clear h1 h2 h3 h4
  have heq := fun (w' : World) (hb : Below w.heap.size w w') => equal_any _ _ a.data b.data w' (HU.out.below hb) (HV.out.below hb)
  have HEQ := Lib.hid heq
  clear heq
  cases b1 with
  | false =>
    go_enter Tryd.func47, Tryd.ntmps47
    go_wp2_with fail
    go_ret
    exact ⟨rfl, btr (bal (bre w) _) (bal (bre _) _)⟩
  | true =>
    cases b2 with
    | false =>
      go_enter Tryd.func47, Tryd.ntmps47
      go_wp2_with fail
      go_ret
      exact ⟨rfl, btr (bal (bre w) _) (bal (bre _) _)⟩
    | true =>
      cases b3 with
      | false =>
        go_enter Tryd.func47, Tryd.ntmps47
        go_wp2_with fail
        go_ret
        exact ⟨rfl, btr (bal (bre w) _) (bal (bre _) _)⟩
      | true =>
        cases b4 with
        | false =>
          go_enter Tryd.func47, Tryd.ntmps47
          go_wp2_with fail
          go_ret
          exact ⟨rfl, btr (bal (bre w) _) (bal (bre _) _)⟩
        | true =>
          go_enter Tryd.func47, Tryd.ntmps47
          go_wp2_with fail
          refine (HEQ.out _ (btr (bal (bre w) _) (bal (bre _) _))).mono ?_
          rintro e w2 ⟨rfl, rfl⟩
          go_wp2_with fail
          go_ret
          exact ⟨rfl, btr (bal (bre w) _) (bal (bre _) _)⟩
end Go.Proofs.YtejdlgfiiagcmaaDoor
