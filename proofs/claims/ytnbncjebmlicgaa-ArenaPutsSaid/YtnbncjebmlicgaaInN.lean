/- What comes in: a node by value. -/
import Derived.Test.YtnbncjebmlicgaaInR
namespace Go.Proofs.Ytnbncjebmlicgaa
open Go.RowKit Go.Deep Go.WideShapes

set_option maxRecDepth 100000 in
theorem node_arg {H : Type} {enc : TypeId × Value → H} {w : World} {r : Reach} {b0 : Nat} {v : Value} {d : DataW H} {p : List MemPlace}
    (hv : Value.okWide Try.prog w r b0 29 v) (h : DataW.Trod enc Try.prog w 0 (fun _ => true) true 29 v d p) : ∃ (n : Nd) (kv : Value), v = NdVal n kv ∧ Ids w kv n.kids ∧ n.Okw := by
  obtain ⟨cs, rfl, hsz⟩ := okWide_struct Try.underlying29 hv
  obtain ⟨fuel, hf⟩ := h
  obtain ⟨n, kv, hn, hk, ok⟩ := node_of_reads hf
  refine ⟨n, kv, ?_, hk, ok⟩
  obtain ⟨l⟩ := cs
  have e : l = [.int .u8 n.kind, .string n.name, .int .i64 n.num, .int .u8 n.typ, .int .u64 n.ref, kv] := hn
  subst e
  rfl
end Go.Proofs.Ytnbncjebmlicgaa
