/- bytes.Join, off the shelf. -/
import Derived.Ground.SlbNamesProg
import Derived.Test.YtejdlgfiiagcmaaDoorChecked
import Derived.Test.YtejdlgfiiagcmaaDoorBase
import Derived.Shelf.Bytes.SlJoin
namespace Go.Proofs
open Go.Shelf Go.Lib Go.RowKit
def Tryd.lays14_ren : Go.Shelf.Ren := ⟨fun | 14 => 50 | 15 => 58 | n => n, fun | 26 => 81 | 22 => 25 | 3 => 3 | 4 => 4 | 0 => 0 | 9 => 9 | 20 => 20 | 5 => 5 | n => n, fun | n => n⟩
theorem Tryd.lays14 : Go.Proofs.SlLaysJ.n14 Tryd.prog Tryd.lays14_ren := {
  mixed := by kernel_rfl
  f14 := Tryd.func50.trans (congrArg some (by kernel_rfl))
  f15 := Tryd.func58.trans (congrArg some (by kernel_rfl))
  t0 := Tryd.underlying0
  a0 := Tryd.isAgg0
  z0 := Tryd.sizeOf0
  v0 := Tryd.zeroValue0
  t3 := Tryd.underlying3
  a3 := Tryd.isAgg3
  z3 := Tryd.sizeOf3
  v3 := Tryd.zeroValue3
  t4 := Tryd.underlying4
  a4 := Tryd.isAgg4
  z4 := Tryd.sizeOf4
  v4 := Tryd.zeroValue4
  t9 := Tryd.underlying9
  a9 := Tryd.isAgg9
  z9 := Tryd.sizeOf9
  v9 := Tryd.zeroValue9
  t20 := Tryd.underlying20
  a20 := Tryd.isAgg20
  z20 := Tryd.sizeOf20
  v20 := Tryd.zeroValue20
  t22 := Tryd.underlying25
  a22 := Tryd.isAgg25
  z22 := Tryd.sizeOf25
  v22 := Tryd.zeroValue25
  t26 := Tryd.underlying81
  a26 := Tryd.isAgg81
  z26 := Tryd.sizeOf81
  v26 := Tryd.zeroValue81
  t5 := Tryd.underlying5
  z5 := Tryd.sizeOf5
  i5 := by kernel_rfl }
namespace X0
end X0
end Go.Proofs
namespace Go.Proofs.YtejdlgfiiagcmaaDoor
open Go.RowKit

theorem holds_of_bytes {w : World} {v : Value} {l : List UInt8} (h : Bytes w v l) : Lib.HoldsBytes w v l := by
  obtain ⟨a, c, rfl, _, _, hn, hr⟩ := h
  rcases hr with h0 | ⟨g, o, rfl, hr⟩
  · subst h0
    exact ⟨a, c, rfl, fun _ => rfl, fun _ _ i x hx => by simp at hx⟩
  · refine ⟨some ⟨g, o, none⟩, c, rfl, fun h => (by cases h), fun b hb i x hx => ?_⟩
    cases hb
    obtain ⟨u, hu, rfl⟩ := hr i x hx
    rw [Addr.add_mid]
    exact hu

theorem bytes_of_fresh {w : World} {v : Value} {l : List UInt8} {B : Nat} (h : Lib.FreshBytes B w v l) : Bytes w v l := by
  obtain ⟨g, cap, zs, rfl, _, hc, hm, hz, hr, hb, hcell, _⟩ := h
  refine ⟨some ⟨g, 0, none⟩, cap, rfl, Nat.le_trans hc hm, hc, fun h => (by cases h), .inr ⟨g, 0, rfl, fun j x hx => ⟨_, by rw [Nat.zero_add]; exact hcell j (by have := (List.getElem?_eq_some_iff.1 hx).1; omega), ?_⟩⟩⟩
  have hj := (List.getElem?_eq_some_iff.1 hx).1
  have hjz : j < zs.length := by omega
  have hzj : (zs.take l.length)[j]? = some zs[j] := by rw [List.getElem?_take, if_pos hj, List.getElem?_eq_getElem hjz]
  have h1 : (Lib.bytesOf (zs.take l.length))[j]? = some x := by rw [hb]; exact hx
  unfold Lib.bytesOf at h1
  rw [List.getElem?_map, hzj] at h1
  have h2 := hr zs[j] (List.getElem_mem _)
  rw [List.getD_eq_getElem?_getD, List.getElem?_eq_getElem hjz]
  simp only [Option.map_some, Option.some.injEq] at h1
  subst h1
  obtain ⟨n, hn⟩ := Int.eq_ofNat_of_zero_le h2.1
  show Value.int .u8 zs[j] = B8 _
  rw [hn] at h2 ⊢
  unfold B8
  congr 1
  simp
  omega

theorem parts_lit (w : World) (cs : List Value) (ls : List (List UInt8)) (e n : Nat) (hn : n = w.heap.size) (hl : cs.length = ls.length)
    (h : ∀ (j : Nat) v l, cs[j]? = some v → ls[j]? = some l → Bytes w v l) : Lib.PartsAt (w.alloc (.cells cs.toArray e)) ⟨n, 0, none⟩ cs ls := by
  subst hn
  refine ⟨hl, fun i v hv => ?_, fun i v l hv hl => holds_of_bytes ((h i v l hv hl).below (bal (bre w) _))⟩
  rw [Addr.add_mid, Nat.zero_add, cell_of_row _ w.heap.size i _ e _ (heap_alloc_new w _)]
  simpa using hv

theorem bjoin_any (w : World) (cs : List Value) (ls : List (List UInt8)) (e n k : Nat) (hn : n = w.heap.size) (hl : cs.length = ls.length) (hk : k = ls.length) (h2 : 2 ≤ ls.length) (h3 : ls.length ≤ 1000) (hb : ls.flatten.length ≤ 140737488355328)
    (h : ∀ (j : Nat) v l, cs[j]? = some v → ls[j]? = some l → Bytes w v l) :
    Calls Tryd.prog 50 #[.slice (some ⟨n, 0, none⟩) k k, .slice none 0 0] (w.alloc (.cells cs.toArray e)) fun e' w' => ∃ v', e' = .returned v' ∧ Bytes w' v' ls.flatten ∧ Below (w.alloc (.cells cs.toArray e)).heap.size (w.alloc (.cells cs.toArray e)) w' := by
  subst hk
  have hlens : Lib.lens ls = ls.flatten.length := by unfold Lib.lens; rw [List.length_flatten]
  have hj : Lib.join ls [] = ls.flatten := by
    unfold Lib.join
    clear h hb hlens hl h2 h3
    induction ls with
    | nil => rfl
    | cons a ls ih =>
      cases ls with
      | nil => simp [List.intercalate]
      | cons b ls => rw [List.flatten_cons, ← ih]; simp [List.intercalate]
  have := Any.bytes_Join_many Tryd.lays14 n 0 ls.length ls.length cs ls (.slice none 0 0) [] (w.alloc (.cells cs.toArray e)) rfl h2 (parts_lit w cs ls e n hn hl h) (Nat.le_refl _) ⟨none, 0, rfl, fun _ => rfl, fun _ hh => by cases hh⟩ (by omega) (by rw [hlens, List.length_nil, Nat.zero_mul]; omega)
  refine this.mono ?_
  rintro e' w' ⟨v', he, hf, hb⟩
  rw [hj] at hf
  exact ⟨v', he, bytes_of_fresh hf, hb⟩
end Go.Proofs.YtejdlgfiiagcmaaDoor
