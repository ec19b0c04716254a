/- Walk: the law's few: the first fields, with short texts. -/
import Derived.Test.YtddhnenlfdpomaaRecs
import Derived.Test.YtddhnenlfdpomaaNilW
import Derived.Test.YtddhnenlfdpomaaTake
namespace Go.Proofs.Ytddhnenlfdpomaa
open Go.RowKit

theorem size_firstOf' (s : ByteArray) (k : Nat) : (firstOf s k).size ≤ k := by
  unfold firstOf; rw [ByteArray.size_extract]; omega

theorem take_take_snoc' {α : Type} (p : List α) (k m : Nat) (hk : k < p.length) : (p.take (k + 1)).take m = if k < m then (p.take k).take m ++ [p[k]] else (p.take k).take m := by
  rw [List.take_take, List.take_take]
  by_cases h : k < m
  · rw [if_pos h, show min m (k + 1) = k + 1 by omega, show min m k = k by omega, List.take_succ_eq_append_getElem hk]
  · rw [if_neg h, show min m (k + 1) = m by omega, show min m k = m by omega]

def fewF (f : Fld) : Fld := ⟨f.kind, f.n, firstOf f.s 40, if f.kind % 5 = 2 then f.most % 1000 else f.most, f.hk, f.hn, by split <;> have := f.hm <;> omega⟩
def fewOf (l : List Fld) : List Fld := (l.take 12).map fewF

/-- fields that came in -/
def Flds (w : World) (v : Value) (l : List Fld) : Prop := Recs 4 (fun _ us f => us = f.cells.toList ∧ f.s.size ≤ 9223372036854775807) w v l

theorem rowF : RowTy Try.prog 36 40 4 40 := RowTy.mk' (z := .agg #[.int .u8 0, .int .u64 0, .string ⟨#[]⟩, .int .u64 0]) Try.underlying36 (by kernel_rfl) rfl (by omega)

theorem rows4 {w : World} {g o j : Nat} {a b c d : Value} (h : w.rangeAt g (o + j * 4) [a, b, c, d]) :
    w.cell? ⟨g, o + j * 4, none⟩ = some a ∧ w.cell? ⟨g, o + j * 4 + 1, none⟩ = some b ∧ w.cell? ⟨g, o + j * 4 + 2, none⟩ = some c ∧ w.cell? ⟨g, o + j * 4 + 3, none⟩ = some d :=
  ⟨h 0 a rfl, h 1 b rfl, h 2 c rfl, h 3 d rfl⟩

theorem rangeAt_lies {w : World} {g o : Nat} {cs : List Value} (h : w.rangeAt g o cs) : Lies w (some ⟨g, o, none⟩) cs := .inr ⟨g, o, rfl, h⟩

set_option maxRecDepth 10000 in
set_option maxHeartbeats 1600000 in
theorem few_any (v : Value) (l : List Fld) (w : World) (hv : Flds w v l) :
    Calls Try.prog 16 #[v] w fun e w' => ∃ v', e = .returned v' ∧ w'.ownsRow w.heap.size 40 4 v' (fewOf l).length ((fewOf l).flatMap fun f => f.cells.toList) ∧ Below w.heap.size w w' := by
  obtain ⟨a, c, rfl, hm, hc, _, hrow⟩ := hv
  unfold maxLen at hm
  have HR := Lib.hid hrow
  clear hrow
  go_enter Try.func16, Try.ntmps16
  go_wp2
  go_loopw [3, 4, 5, 8] (fun out _ _ i wr => ∃ (k : Nat) (q : List Fld), k ≤ l.length ∧ i = .int .i64 k ∧ Hid (q = fewOf (l.take k)) ∧ wr.ownsRow w.heap.size 40 4 out q.length (q.flatMap fun f => f.cells.toList) ∧ Below w.heap.size w wr) (fun _ _ _ i _ => l.length - (intOf i).toNat)
  case atStart => exact ⟨0, [], by omega, rfl, Lib.hid (by simp [fewOf]), World.ownsRow_nil _ _ _ _, Below.refl _ _⟩
  case round =>
    obtain ⟨k, q, hk, rfl, HQ, hown, hb⟩ := hrel
    by_cases hlt : k < l.length
    · rcases HR.out with h0 | ⟨g, o, rfl, hcell⟩
      · subst h0; simp at hlt
      · obtain ⟨us, hus, hrg, hue, hfs⟩ := hcell k _ (List.getElem?_eq_getElem hlt)
        clear hcell
        subst hue
        have hts : fewOf (l.take (k + 1)) = if k < 12 then fewOf (l.take k) ++ [fewF l[k]] else fewOf (l.take k) := by
          unfold fewOf
          rw [take_take_snoc' l k 12 hlt]
          split
          · simp
          · rfl
        generalize l[k] = f at *
        obtain ⟨c0, c1, c2, c3⟩ := rows4 (show w.rangeAt g (o + k * 4) [.int .u8 f.kind, .int .u64 f.n, .string f.s, .int .u64 f.most] from hrg)
        have hg : g < w.heap.size := block_lt_of_cell c0
        have d0 := (hb.cell (p := ⟨g, o + k * 4, none⟩) hg).trans c0
        have d1 := (hb.cell (p := ⟨g, o + k * 4 + 1, none⟩) hg).trans c1
        have d2 := (hb.cell (p := ⟨g, o + k * 4 + 2, none⟩) hg).trans c2
        have d3 := (hb.cell (p := ⟨g, o + k * 4 + 3, none⟩) hg).trans c3
        clear c0 c1 c2 c3 hrg hus
        by_cases hk12 : k < 12
        · rw [if_pos hk12, ← HQ.out] at hts
          have hT := text_any f.s 40 (wr.alloc (.cells #[.int .u8 f.kind, .int .u64 f.n, .string f.s, .int .u64 f.most] 40)) hfs (by omega)
          have HT := Lib.hid hT
          have HS := Lib.hid hts
          clear hts hT
          have hfk := f.hk
          have hfm := f.hm
          have hqs : q.length = min 12 k := by rw [HQ.out]; simp [fewOf]; omega
          have hq12 : q.length ≤ 12 := by omega
          clear hqs
          have hcl : (fewF f).cells.toList = [.int .u8 f.kind, .int .u64 f.n, .string (firstOf f.s 40), .int .u64 (if f.kind % 5 = 2 then f.most % 1000 else f.most : Nat)] := rfl
          have HC := Lib.hid hcl
          clear hcl
          have hB : Below w.heap.size w (wr.alloc (.cells #[.int .u8 f.kind, .int .u64 f.n, .string (firstOf f.s 40), .int .u64 (if f.kind % 5 = 2 then f.most % 1000 else f.most : Nat)] 40)) := hb.alloc hb.size _
          have hO := World.ownsRow.alloc hown (.cells #[.int .u8 f.kind, .int .u64 f.n, .string (firstOf f.s 40), .int .u64 (if f.kind % 5 = 2 then f.most % 1000 else f.most : Nat)] 40)
          by_cases h2 : f.kind % 5 = 2
          all_goals
            first
              | (have h2b : ((f.kind : Int) % 5 == 2) = true := by simp; omega)
              | (have h2b : ((f.kind : Int) % 5 == 2) = false := by simp; omega)
            simp only [h2, if_true, if_false] at HC hB hO
            try rw [show ((f.most % 1000 : Nat) : Int) = (f.most : Int) % 1000 by omega] at HC hB hO
            go_wp2_with first
              | (go_at_call 25; refine HT.out.mono ?_; rintro e w1 ⟨rfl, rfl⟩)
              | (at_builtin; refine wpList_app rfl _ _ 36 40 4 40 rowF rfl w.heap.size _ q.length _ rfl (World.ownsRow.alloc hO _) _ 1 1 _ rfl rfl (rangeAt_lies (rangeAt_new _ [_, _, _, _] _ _ (by simp))) (Nat.le_refl _) (fun h => by cases h) (by simp; exact ⟨rfl, rfl, rfl, rfl⟩) (by unfold maxLen; omega) (by omega) (by exact (hB.alloc hB.size _).size) ?_; intro v' w1 h1 _ h3)
            go_roundw
            case rel =>
              refine ⟨k + 1, q ++ [fewF f], by omega, by go_num, Lib.hid HS.out.symm, ?_, (hB.alloc hB.size _).trans h3⟩
              rw [List.length_append, List.flatMap_append, List.flatMap_singleton, HC.out]
              exact h1
            case measure => simp [intOf]; omega
        · rw [if_neg hk12] at hts
          have HT := Lib.hid hts
          clear hts
          go_wp2
          go_roundw
          case rel => exact ⟨k + 1, q, by omega, by go_num, Lib.hid (HQ.out.trans HT.out.symm), World.ownsRow.alloc hown _, hb.alloc hb.size _⟩
          case measure => simp [intOf]; omega
    · have e : k = l.length := by omega
      subst e
      have hl := HQ.out
      rw [List.take_length] at hl
      subst hl
      go_wp2
      go_ret
      exact ⟨_, rfl, hown, hb⟩
end Go.Proofs.Ytddhnenlfdpomaa
