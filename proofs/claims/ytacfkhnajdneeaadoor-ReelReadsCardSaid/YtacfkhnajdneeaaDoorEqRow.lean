/- Two arrays of bytes compared. No program is in sight. -/
import Derived.Test.YtacfkhnajdneeaaDoorPreA
import Derived.ChangeKeysEq
namespace Go.Proofs.YtacfkhnajdneeaaDoor
open Go.RowKit

theorem eqItems_bytes {P : Program} {e : TypeId} {d : Nat} (he : P.underlying e = some (.int .u8)) (hk : P.plainKey e = true) (xs ys : List UInt8) (w : World) (hl : xs.length = ys.length) : ∀ (m i : Nat), i + m = xs.length →
    (Op.eqItems (d + 1) e 1 (xs.map B8).toArray (ys.map B8).toArray (List.range' i m)).run P w = .ok (decide (xs.drop i = ys.drop i)) w := by
  intro m
  induction m with
  | zero =>
    intro i hi
    rw [List.drop_of_length_le (by omega), List.drop_of_length_le (by omega)]
    simp [Op.eqItems]
  | succ m ih =>
    intro i hi
    have h1 : i < xs.length := by omega
    have h2 : i < ys.length := by omega
    have p1 : (part e (xs.map B8).toArray (i * 1)).run P w = .ok (B8 xs[i]) w := run_part_plain w hk (by simp [h1])
    have p2 : (part e (ys.map B8).toArray (i * 1)).run P w = .ok (B8 ys[i]) w := run_part_plain w hk (by simp [h2])
    have p3 : (Op.equalIn (d + 1) e (B8 xs[i]) (B8 ys[i])).run P w = .ok (((xs[i]).toNat : Int) == ((ys[i]).toNat : Int)) w := run_equalIn_int w d e .u8 .u8 _ _ he
    rw [List.drop_eq_getElem_cons h1, List.drop_eq_getElem_cons h2]
    simp only [List.range'_succ, Op.eqItems, Sem.run_bind, p1, p2, p3, Result.andThen_ok]
    by_cases hb : xs[i] = ys[i]
    · rw [hb]
      simp only [beq_self_eq_true, Bool.not_true, Bool.false_eq_true, if_false, List.cons.injEq, true_and]
      exact ih (i + 1) (by omega)
    · have hbn : (((xs[i]).toNat : Int) == ((ys[i]).toNat : Int)) = false := by
        simp only [beq_eq_false_iff_ne, ne_eq]
        intro h
        exact hb (UInt8.toNat_inj.1 (by omega))
      rw [hbn]
      simp only [Bool.not_false, if_true, Sem.run_pure, List.cons.injEq, hb, false_and, decide_false]

theorem run_eql_bytes {P : Program} {t e : TypeId} {n : Nat} (ht : P.underlying t = some (.array n e)) (he : P.underlying e = some (.int .u8)) (hk : P.plainKey e = true) (hi : (P.info? e).map (·.size) = some 1) (xs ys : List UInt8) (h1 : xs.length = n) (h2 : ys.length = n) (w : World) :
    (Op.equal t (.agg (xs.map B8).toArray) (.agg (ys.map B8).toArray)).run P w = .ok (decide (xs = ys)) w := by
  cases hq : P.info? e with
  | none => rw [hq] at hi; cases hi
  | some i =>
    have hc : P.cellsOf e = 1 := by simpa [Program.cellsOf, hq] using hi
    show (Op.equalIn (9999 + 1) t _ _).run P w = _
    rw [run_equalIn_array (n := n) (e := e) (i := i) w 9999 _ _ ht hq, hc, List.range_eq_range']
    exact eqItems_bytes (d := 9998) he hk xs ys w (by omega) n 0 (by omega)
end Go.Proofs.YtacfkhnajdneeaaDoor
