/- Walks: awake; what is read of a list of tokens. -/
import Derived.Test.YtffghdehimhpiaaDoorTkVal
namespace Go.Proofs.YtffghdehimhpiaaDoor
open Go.RowKit

/-- tokens that lie in memory -/
def ToksAt (w : World) (v : Value) (ts : List Tok) : Prop := Recs 3 (fun _ us t => us = tokCells t) w v ts
theorem tok_cells3 (t : Tok) : (tokCells t).length = 3 := rfl
theorem OwnToks.at {base : Nat} {w : World} {v : Value} {ts : List Tok} (h : OwnToks base w v ts) : ToksAt w v ts := recs_of_own tok_cells3 (by omega) h
theorem OwnToksR.at {base : Nat} {w : World} {v : Value} {ts : List Tok} (h : OwnToksR base w v ts) : ToksAt w v ts := recs_of_own tok_cells3 (by omega) h
theorem ToksAt.below {w w' : World} {v : Value} {ts : List Tok} (h : ToksAt w v ts) (hb : Below w.heap.size w w') : ToksAt w' v ts := Recs.mono (by omega) h hb fun _ _ _ h => h

/-- a list of one's own that is not empty: where it lies -/
theorem own_open {e base : Nat} {w : World} {v : Value} {ts : List Tok} (h : w.ownsRow base e 3 v ts.length (ts.flatMap tokCells)) (hne : ts ≠ []) : ∃ g c, v = .slice (some ⟨g, 0, none⟩) ts.length c ∧ g < w.heap.size ∧
    ∀ (j : Nat) t, ts[j]? = some t → w.cell? ⟨g, j * 3, none⟩ = some (.int .u8 t.kind) ∧ w.cell? ⟨g, j * 3 + 1, none⟩ = some (.string (mk8 t.text)) ∧ w.cell? ⟨g, j * 3 + 2, none⟩ = some (.int .i64 t.pos) := by
  rcases h.2 with ⟨-, h0⟩ | ⟨g, c, cur, rfl, -, hg, -⟩
  · exact absurd (List.eq_nil_of_length_eq_zero h0) hne
  · obtain ⟨a, c', e1, -, -, -, h0 | ⟨g', o, e2, hc⟩⟩ := recs_of_own tok_cells3 (by omega) h
    · exact absurd h0 hne
    · cases e1
      cases e2
      refine ⟨g, c, rfl, (Array.getElem?_eq_some_iff.1 hg).1, fun j t hj => ?_⟩
      obtain ⟨us, -, hr, rfl⟩ := hc j t hj
      have h0 := hr 0 _ rfl
      have h1 := hr 1 _ rfl
      have h2 := hr 2 _ rfl
      rw [Nat.zero_add] at h0 h1 h2
      exact ⟨h0, h1, h2⟩

theorem toks_ex : toksOf [97, 60, 61, 49, 50] = some [⟨1, [97], 0⟩, ⟨4, [60, 61], 1⟩, ⟨2, [49, 50], 3⟩] := by kernel_rfl

set_option maxRecDepth 100000 in
set_option maxHeartbeats 1600000 in
theorem awake_any (w : World) (ht : Tb w.heap.size w) : Calls Tryd.prog 8 #[] w fun e w' => e = .returned (.bool true) ∧ Below w.heap.size w w' := by
  go_enter Tryd.func8, Tryd.ntmps8
  go_wp2_with fail
  refine (all_any ⟨#[97, 60, 61, 49, 50]⟩ (by decide) w ht).mono ?_
  rintro e w1 ⟨-, hyes, hb1⟩
  obtain ⟨v, rfl, hown⟩ := hyes _ toks_ex
  obtain ⟨g, c, rfl, hg, hc⟩ := own_open hown (by simp)
  have c00 : w1.cell? ⟨g, 0, none⟩ = some (.int .u8 1) := (hc 0 _ rfl).1
  have c11 : w1.cell? ⟨g, 4, none⟩ = some (.string ⟨#[60, 61]⟩) := (hc 1 _ rfl).2.1
  have c20 : w1.cell? ⟨g, 6, none⟩ = some (.int .u8 2) := (hc 2 _ rfl).1
  have c21 : w1.cell? ⟨g, 7, none⟩ = some (.string (mk8 [49, 50])) := (hc 2 _ rfl).2.1
  have c22 : w1.cell? ⟨g, 8, none⟩ = some (.int .i64 3) := (hc 2 _ rfl).2.2
  have HB1 := Lib.hid hb1
  have HV := Lib.hid (value_num [49, 50] 3 (by kernel_rfl) (by decide) (by decide) w1)
  clear hyes hown hb1 hc hg
  go_wp2_with fail
  refine HV.out.mono ?_
  rintro e w2 ⟨rfl, hb2⟩
  have HB2 := Lib.hid (btr HB1.out hb2)
  have hv : valOf [49, 50] = 12 := by kernel_rfl
  rw [hv]
  clear hb2 hv
  go_wp2_with fail
  go_ret
  exact ⟨rfl, HB2.out⟩
end Go.Proofs.YtffghdehimhpiaaDoor
