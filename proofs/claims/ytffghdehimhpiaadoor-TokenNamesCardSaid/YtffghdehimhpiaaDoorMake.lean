/- 'make([]byte, n)'. No program is in sight. -/
import Derived.Test.YtffghdehimhpiaaDoorStill
import Derived.OwnWalk
namespace Go.Proofs.YtffghdehimhpiaaDoor
open Go.RowKit

theorem made8 (n : Nat) : (madeCells (.int .u8 0 : Value).cells (n * 1)).toList = (List.replicate n (0 : UInt8)).map B8 := by
  rw [List.map_replicate]
  apply List.eq_replicate_iff.2
  refine ⟨by rw [Array.length_toList, size_madeCells, Nat.mul_one], fun b hb => ?_⟩
  unfold madeCells at hb
  rw [Array.toList_map] at hb
  obtain ⟨a, _, rfl⟩ := List.mem_map.1 hb
  show (#[(.int .u8 0 : Value)] : Array Value)[a % 1]! = _
  rw [Nat.mod_one]
  rfl

/-- what '[]byte' asks of a make -/
structure MakeTy (P : Program) (t e : TypeId) : Prop where
  ht : P.underlying t = some (.slice e)
  ex : ∃ i, P.info? e = some i ∧ i.zero = some (.int .u8 0) ∧ i.size = 1 ∧ i.bytes = 1

theorem MakeTy.mk' {P : Program} {t e : TypeId} (ht : P.underlying t = some (.slice e)) (hi : (P.info? e).map (fun i => (i.zero, i.size, i.bytes)) = some (some (.int .u8 0), 1, 1)) : MakeTy P t e := by
  obtain ⟨i, h1, h2, h3, h4⟩ := info_parts hi
  exact ⟨ht, i, h1, h2, h3, h4⟩

theorem run_make8 {P : Program} (w : World) {t e : TypeId} (T : MakeTy P t e) (n : Nat) (hn : n ≤ 1000000) :
    ∃ w', (Instr.makeSlice t (.int .i64 n) (.int .i64 n)).run P w = .ok (.slice (some ⟨w.heap.size, 0, none⟩) n n) w' ∧ Own8 e w.heap.size w' (.slice (some ⟨w.heap.size, 0, none⟩) n n) (List.replicate n 0) ∧ Below w.heap.size w w' := by
  obtain ⟨i, hi, hz, hs, hb⟩ := T.ex
  obtain ⟨w', hrun, r1, r2⟩ := run_make_full (P := P) w w.heap.size t e i (.int .u8 0) 1 T.ht hi hz hs .i64 .i64 n (by rw [hb]; omega) (by unfold maxLen; omega) (Nat.le_refl _)
  rw [made8] at r1
  exact ⟨w', hrun, by unfold Own8; rw [List.length_replicate]; exact r1, ⟨r2.os, r2.tape, r2.output, r2.size, fun k hk => r2.block k hk (by simp)⟩⟩

theorem wp_make8 {P : Program} {o : Oper} {a : Act} {w : World} {K : Act → World → Prop} {Q : Exit → Act → World → Prop} (l c : Operand) (t e : TypeId) (T : MakeTy P t e) (ho : o.op = .makeSlice t l c) (n : Nat) (hl : a.eval l = .int .i64 n) (hc : a.eval c = .int .i64 n) (hn : n ≤ 1000000)
    (h : ∀ w', Own8 e w.heap.size w' (.slice (some ⟨w.heap.size, 0, none⟩) n n) (List.replicate n 0) → Below w.heap.size w w' → K (a.put o.dst (.slice (some ⟨w.heap.size, 0, none⟩) n n)) w') : o.wp P a w K Q := by
  obtain ⟨w', hr, h1, h2⟩ := run_make8 w T n hn
  unfold Oper.wp execOp
  simp only [ho, hl, hc, Sem.run_bind, hr, Result.andThen_ok]
  exact h w' h1 h2

theorem wpList_make8 {P : Program} {w : World} {ops : Array Oper} {rest : List Oper} {o : Oper} {a : Act} {Q : Exit → Act → World → Prop} (hgd : o.guard = none) (l c : Operand) (t e : TypeId) (T : MakeTy P t e) (ho : o.op = .makeSlice t l c) (n : Nat) (hl : a.eval l = .int .i64 n) (hc : a.eval c = .int .i64 n) (hn : n ≤ 1000000)
    (h : ∀ w', Own8 e w.heap.size w' (.slice (some ⟨w.heap.size, 0, none⟩) n n) (List.replicate n 0) → Below w.heap.size w w' → wpList P ops Q rest (a.put o.dst (.slice (some ⟨w.heap.size, 0, none⟩) n n)) w') : wpList P ops Q (o :: rest) a w :=
  wpList_plain hgd fun _ hK => wp_make8 l c t e T ho n hl hc hn fun w' h1 h2 => hK _ _ (h w' h1 h2)
end Go.Proofs.YtffghdehimhpiaaDoor
