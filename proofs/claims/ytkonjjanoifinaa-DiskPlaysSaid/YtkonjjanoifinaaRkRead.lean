/- Walk: the document's disk: a sector as it was written last. -/
import Derived.Test.YtkonjjanoifinaaRk
namespace Go.Proofs.Ytkonjjanoifinaa
open Go.RowKit

theorem lastOf_take (ws : List (Nat × List UInt8)) (i k : Nat) (p : List UInt8) (x : Nat × List UInt8) (hx : ws[k]? = some x) : lastOf (ws.take (k + 1)) i p = if x.1 = i then x.2 else lastOf (ws.take k) i p := by
  obtain ⟨hk, hx'⟩ := List.getElem?_eq_some_iff.1 hx
  rw [List.take_succ_eq_append_getElem hk, lastOf_append, hx']
  rfl

/-- an int of one's own row -/
theorem OwnInts.at {w : World} {base : Nat} {v : Value} {l : List Nat} (h : OwnInts base w v l) (i : Nat) (n : Nat) (hi : l[i]? = some n) :
    ∃ g c, v = .slice (some ⟨g, 0, none⟩) l.length c ∧ w.cell? ⟨g, i, none⟩ = some (.int .i64 n) ∧ ∀ o, w.frozen? ⟨g, o, none⟩ = false := by
  have hil : i < l.length := (List.getElem?_eq_some_iff.1 hi).1
  unfold OwnInts at h
  rcases h.2 with ⟨_, h0⟩ | ⟨g, cap, cur, rfl, _⟩
  · omega
  · refine ⟨g, cap, rfl, (World.ownsRow.cellAt h i (by omega)).trans ?_, fun o => World.ownsRow.frozenAt h o⟩
    rw [List.getElem?_map, hi]; rfl

theorem OwnInts.lies {w : World} {base : Nat} {v : Value} {l : List Nat} (h : OwnInts base w v l) : ∃ a c, v = .slice a l.length c ∧ l.length ≤ maxLen ∧ l.length ≤ c := by
  unfold OwnInts at h
  obtain ⟨a, c, e, hc, hm, _⟩ := ownsRow_lies h
  exact ⟨a, c, e, Nat.le_trans hc hm, hc⟩

set_option maxRecDepth 10000 in
set_option maxHeartbeats 1600000 in
theorem refread_any (r : Nat) (d : Dk) (F : Nat → Prop) (i : Nat) (w : World) (h : RefAt w r d F) (hi : i < d.safe.length) (hw : d.wait.length ≤ 1000000) :
    Calls Try.prog 39 #[.pointer (some ⟨r, 0, none⟩), .int .i64 i] w fun e w' => ∃ v, e = .returned v ∧ Bytes w' v (d.now i) ∧ Below w.heap.size w w' := by
  obtain ⟨h0, vs, va, vw, h1, h2, h3, h4, h5, h6, h7, h8⟩ := h
  obtain ⟨l, hl⟩ : ∃ l, d.safe[i]? = some l := ⟨_, List.getElem?_eq_getElem hi⟩
  obtain ⟨gs, cs, us, rfl, hFs, hcs, hfs, hos, _⟩ := h2.at i l hl
  obtain ⟨d0, d1, d2, d3, fr⟩ := rrow4 h1
  obtain ⟨a3, c3, rfl, hm3, hc3⟩ := h3.lies
  obtain ⟨a5, c5, rfl, hm5, hc5⟩ := h5.lies
  have hgl : d.safe.getD i [] = l := by rw [List.getD_eq_getElem?_getD, hl]; rfl
  have hnow : d.now i = lastOf d.wait i l := by unfold Dk.now; rw [hgl]
  obtain ⟨n, hn⟩ : ∃ n, n = d.wait.length := ⟨_, rfl⟩
  have hn1 : n ≤ 1000000 := by omega
  rw [List.length_map, ← hn] at d1 hm3 hc3
  rw [List.length_map, ← hn] at d2
  have hb0 := hos.bytes
  have H3 := Lib.hid h3
  have H5 := Lib.hid h5
  have HN := Lib.hid hn
  have HNOW := Lib.hid hnow
  have HOS := Lib.hid hb0
  have hiI : (i : Int) < d.safe.length := by omega
  obtain ⟨ab, cb, hub, _⟩ := id hb0
  subst hub
  clear h1 h2 h3 h4 h5 h6 h7 h8 hn hnow hl hgl hos hb0 h0 hm5 hc5
  go_enter Try.func39, Try.ntmps39
  go_wp2_with fail
  go_loopw [5, 6, 7, 20] (fun p _ _ j wr => ∃ (k : Nat), j = .int .i64 k ∧ k ≤ n ∧ Hid (Bytes w p (lastOf (d.wait.take k) i l)) ∧ Hid (∃ q, wr = w.drewN q)) (fun _ _ _ j _ => n - (intOf j).toNat)
  case atStart => exact ⟨0, rfl, by omega, HOS, Lib.hid ⟨0, rfl⟩⟩
  case round =>
    obtain ⟨k, rfl, hk, HP, HQ⟩ := hrel
    obtain ⟨q, rfl⟩ := HQ.out
    by_cases hlt : k < n
    · obtain ⟨x, hx⟩ : ∃ x, d.wait[k]? = some x := ⟨_, List.getElem?_eq_getElem (by have := HN.out; omega)⟩
      obtain ⟨ga, ca, e3, hca, hfa⟩ := H3.out.at k x.1 (by rw [List.getElem?_map, hx]; rfl)
      rw [List.length_map, ← HN.out] at e3
      cases e3
      obtain ⟨gw, cw, uw, e5, _, hcw, hfw, how, _⟩ := H5.out.at k x.2 (by rw [List.getElem?_map, hx]; rfl)
      rw [List.length_map, ← HN.out] at e5
      cases e5
      have hnx := lastOf_take d.wait i k l x hx
      have HNX := Lib.hid hnx
      have HOW := Lib.hid how.bytes
      obtain ⟨aw, cw', huw, _⟩ := id HOW.out
      subst huw
      clear hnx how hx
      by_cases hxi : x.1 = i
      · have hxI : decide ((x.1 : Int) = i) = true := decide_eq_true (by omega)
        have hnx := HNX.out
        rw [if_pos hxi] at hnx
        have HOW2 : Hid (Bytes w (.slice aw x.2.length cw') (lastOf (d.wait.take (k + 1)) i l)) := by rw [hnx]; exact HOW
        go_wp2_with fail
        go_roundw
        case rel => exact ⟨k + 1, by go_num, by omega, HOW2, (by first | exact HQ | exact Lib.hid ⟨q + 1, rfl⟩)⟩
        case measure => first | (simp [intOf]; done) | (simp [intOf]; omega)
      · have hxI : decide ((x.1 : Int) = i) = false := decide_eq_false (by omega)
        have hnx := HNX.out
        rw [if_neg hxi] at hnx
        rw [← hnx] at HP
        go_wp2_with fail
        go_roundw
        case rel => exact ⟨k + 1, by go_num, by omega, HP, (by first | exact HQ | exact Lib.hid ⟨q + 1, rfl⟩)⟩
        case measure => first | (simp [intOf]; done) | (simp [intOf]; omega)
    · have e : k = n := by omega
      subst e
      go_wp2_with fail
      go_ret
      have hp := HP.out
      rw [HN.out, List.take_length, ← HNOW.out] at hp
      have hb := bdn (bre w) q
      exact ⟨_, rfl, hp.below hb, hb⟩
end Go.Proofs.Ytkonjjanoifinaa
