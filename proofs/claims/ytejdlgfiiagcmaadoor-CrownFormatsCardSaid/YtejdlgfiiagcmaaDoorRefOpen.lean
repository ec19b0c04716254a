/- Walks: the reference's Seal and Open. -/
import Derived.Test.YtejdlgfiiagcmaaDoorOpen
namespace Go.Proofs.YtejdlgfiiagcmaaDoor
open Go.RowKit

set_option maxRecDepth 10000 in
set_option maxHeartbeats 400000 in
theorem rseal_any (v : Value) (p : List UInt8) (w : World) (hv : Bytes w v p) (hbig : p.length ≤ 100000000) :
    Calls Tryd.prog 32 #[v] w fun e w' => ∃ v', e = .returned v' ∧ Own8 5 w.heap.size w' v' (p ++ lows (crc8 p)) ∧ Below w.heap.size w w' := by
  obtain ⟨a, c, rfl, _, _, _, _⟩ := id hv
  go_enter Tryd.func32, Tryd.ntmps32
  go_wp2_with fail
  refine (rsum_any _ p _ hv).mono ?_
  rintro e w1 ⟨rfl, hw1⟩
  subst hw1
  go_wp2_with fail
  refine (low_any _ (crc8_lt p) _).mono ?_
  rintro e w2 ⟨v2, rfl, hown, hb2⟩
  obtain ⟨a2, c2, rfl, _, _, _, _⟩ := id hown.bytes
  have hlow := hown.bytes
  have hv2 := hv.below hb2
  have hr := rows_lit2 _ _ _ _ _ 25 w2.heap.size rfl hv2 hlow
  have hcat : [p, lows (crc8 p)].flatten = p ++ lows (crc8 p) := by simp
  have hb3 := bal hb2 (.cells #[.slice a p.length c, .slice a2 (lows (crc8 p)).length c2] 25)
  have hll : (lows (crc8 p)).length = 4 := rfl
  rw [hll] at hr hb3 ⊢
  go_wp2_with fail
  refine (join_any _ _ _ hr (by rw [hcat, List.length_append, hll]; omega)).mono ?_
  rintro e w3 ⟨v3, rfl, hown3, hb4⟩
  rw [hcat] at hown3
  have hown4 := ownsRow_base hown3 hb3.size
  have hb5 := btr hb3 hb4
  clear hown3 hown hlow hr hb4 hb2 hcat hll
  go_wp2
  go_ret
  exact ⟨_, rfl, hown4, hb5⟩

set_option maxRecDepth 10000 in
set_option maxHeartbeats 400000 in
theorem ropen_short (v : Value) (p : List UInt8) (w : World) (hv : Bytes w v p) (h4 : p.length < 4) :
    Calls Tryd.prog 49 #[v] w fun e w' => e = .returned (.bool false) ∧ Below w.heap.size w w' := by
  obtain ⟨a, c, rfl, _, _, _, _⟩ := id hv
  have hd : decide ((4 : Int) ≤ (p.length : Int)) = false := by simp; omega
  go_enter Tryd.func49, Tryd.ntmps49
  go_wp2_with fail
  go_quiet (fail)
  go_wp2
  go_ret
  exact ⟨rfl, bdn (bre _) _⟩

set_option maxRecDepth 10000 in
set_option maxHeartbeats 400000 in
theorem ropen_long (v : Value) (p : List UInt8) (m : Nat) (w : World) (hv : Bytes w v p) (hm : p.length = m + 4) (hbig : p.length ≤ 100000000) :
    Calls Tryd.prog 49 #[v] w fun e w' => e = .returned (.bool (decide (p.drop m = lows (crc8 (p.take m))))) ∧ Below w.heap.size w w' := by
  obtain ⟨a, c, rfl, _, hc, _, _⟩ := id hv
  have hv1 : Bytes w (.slice a m c) (p.take m) := hv.firsts m (by omega)
  obtain ⟨A, N, C, hsuf, hv2, -⟩ := run_suffix hv m 25 5 (by omega) row8
  have hcrc := crc8_lt (p.take m)
  generalize hq : p.take m = q at *
  generalize hr : p.drop m = r at *
  rw [hm] at hsuf hc ⊢
  have h0 : (0 : Int) ≤ m := by omega
  have h1 : (m : Int) ≤ c := by omega
  have h2 : (m : Int) ≤ 100000000 := by omega
  have hd : decide ((0 : Int) ≤ m) = true := by simp
  clear hm hq hr hc hv hbig
  go_enter Tryd.func49, Tryd.ntmps49
  go_wp2_with fail
  go_region_held3 (fun _ => True) (trivial) (first | (go_at_call 45; refine (rsum_any _ q _ hv1.drew).mono ?_; rintro e w1 ⟨rfl, hw1⟩; subst hw1) | (go_at_call 44; refine (low_any _ hcrc _).mono ?_; rintro e w2 ⟨v2, rfl, hown, hb2⟩) | (go_at_call 28; refine (same_any _ _ r _ _ (hv2.below (btr (bdr (bre _)) hb2)) hown.bytes).mono ?_; rintro e w3 ⟨rfl, n, rfl⟩))
  go_wp2
  go_ret
  exact ⟨rfl, bdn (btr (bdr (bre _)) hb2) _⟩
end Go.Proofs.YtejdlgfiiagcmaaDoor
