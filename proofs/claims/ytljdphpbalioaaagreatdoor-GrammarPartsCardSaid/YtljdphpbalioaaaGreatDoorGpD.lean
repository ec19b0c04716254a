/- Plain: every node that is read is one as it may be. -/
import Derived.Test.YtljdphpbalioaaaGreatDoorGpC
namespace Go.Proofs.YtljdphpbalioaaaGreatDoor
open Go.RowKit

theorem int_wf {u : Int} (h0 : 0 ≤ u) (h1 : u ≤ 9223372036854775807) : (Lit.int .i64 u).wf = true := by
  have e0 : IntKind.i64.min = -9223372036854775808 := by decide
  have e1 : IntKind.i64.max = 9223372036854775807 := by decide
  simp only [Lit.wf, e0, e1, Bool.and_eq_true, decide_eq_true_eq]
  omega
namespace Gr
variable {ts : List Tok}
/-- no token is long -/
def Short (ts : List Tok) : Prop := ∀ t ∈ ts, t.text.length ≤ 1000000
theorem now_in (s : PS) : now ts s = ⟨0, [], 0⟩ ∨ now ts s ∈ ts := by
  unfold now
  split
  · exact .inl rfl
  · cases h : ts[s.pos]? with
    | none => exact .inl rfl
    | some t => exact .inr (List.mem_of_getElem? h)
theorem now_short (hS : Short ts) (s : PS) : (now ts s).text.length ≤ 1000000 := by
  rcases now_in (ts := ts) s with h | h
  · rw [h]; exact Nat.zero_le _
  · exact hS _ h
theorem name_short (hS : Short ts) (s : PS) : (name ts s).1.length ≤ 1000000 := by
  unfold name
  split
  · exact now_short hS s
  · exact Nat.zero_le _
theorem types_small (s : PS) : (types ts s).1 < 256 := by
  unfold types
  split
  · exact (by decide : 1 < 256)
  split
  · exact (by decide : 2 < 256)
  · exact (by decide : 0 < 256)
theorem opNum_small (x : Bs) : opNum x ≤ 13 := by
  unfold opNum
  split
  · rename_i h
    have : ops.length = 13 := rfl
    omega
  · omega
theorem leaf_good {k : Nat} {u : Int} {g : Bs} (hk : k < 256) (h0 : 0 ≤ u) (h1 : u ≤ 9223372036854775807) (hg : g.length ≤ 1000000) : (leaf k u g).Good :=
  Tr.good_mk ⟨⟨Nat.zero_le _, hg, Nat.zero_le _⟩, hk, by decide, int_wf h0 h1⟩ trivial
theorem node_good {k : Nat} {nm : Bs} {ty : Nat} {m g : Bs} {ks : List Tr} (hk : k < 256) (hn : nm.length ≤ 1000000) (hm : m.length ≤ 1000000) (hg : g.length ≤ 1000000) (ht : ty < 256) (h : Tr.GoodL ks) : Tr.Good (.mk k nm 0 ty m g ks) :=
  Tr.good_mk ⟨⟨hn, hg, hm⟩, hk, ht, int_wf (by decide) (by decide)⟩ h
def Gf (f : PS → Tr × PS) : Prop := ∀ s, (f s).1.Good
def GfL (f : PS → List Tr × PS) : Prop := ∀ s, Tr.GoodL (f s).1
theorem rounds_good {f : PS → Tr × PS} (e : Bs) (hf : Gf f) : ∀ n, GfL (rounds ts e f n)
  | 0 => fun s => trivial
  | n + 1 => fun s => by
    unfold rounds
    split
    · exact trivial
    split
    · exact Tr.goodL_one (hf s)
    · show Tr.GoodL (_ :: _)
      rw [Tr.GoodL]
      exact ⟨hf s, rounds_good e hf n _⟩
theorem list_good {f : PS → Tr × PS} (e : Bs) (hf : Gf f) (n : Nat) : GfL (listOf ts e f n) := fun s => by
  unfold listOf
  split
  · exact trivial
  · exact rounds_good e hf n s
theorem till_good {f : PS → Tr × PS} (e : Bs) (eat : Bool) (hf : Gf f) : ∀ n, GfL (till ts e eat f n)
  | 0 => fun s => trivial
  | n + 1 => fun s => by
    unfold till
    split
    · exact trivial
    split
    · exact trivial
    · show Tr.GoodL (_ :: _)
      rw [Tr.GoodL]
      exact ⟨hf s, till_good e eat hf n _⟩
theorem within_good {f : PS → List Tr × PS} (hf : GfL f) (s : PS) : Tr.GoodL (within s f []).1 := by
  unfold within
  split
  · exact trivial
  · exact hf _
theorem callOf_good (hS : Short ts) {f : PS → Tr × PS} (hf : Gf f) (n : Nat) {mod : Bs} (hm : mod.length ≤ 1000000) : Gf (callOf ts f n mod) := fun s =>
  node_good (by decide) (Nat.zero_le _) hm (name_short hS _) (by decide) (within_good (fun s => list_good [41] hf n _) _)
theorem binOf_good {f : PS → Tr × PS} (hf : Gf f) (s : PS) : Tr.Good (.mk 18 [] (within s (binOf ts f) (0, [])).1.1 0 [] [] (within s (binOf ts f) (0, [])).1.2) := by
  have key : ∀ q : PS, Tr.Good (.mk 18 [] (binOf ts f q).1.1 0 [] [] (binOf ts f q).1.2) := fun q => by
    have h := opNum_small (now ts (f q).2).text
    exact Tr.good_mk ⟨⟨Nat.zero_le _, Nat.zero_le _, Nat.zero_le _⟩, by decide, by decide, int_wf (by show (0 : Int) ≤ (opNum (now ts (f q).2).text : Int); omega) (by show (opNum (now ts (f q).2).text : Int) ≤ _; omega)⟩ (Tr.goodL_two (hf _) (hf _))
  unfold within
  split
  · exact node_good (by decide) (Nat.zero_le _) (Nat.zero_le _) (Nat.zero_le _) (by decide) trivial
  · exact key _
theorem expr_good (hS : Short ts) (hT : TokOk ts) : ∀ n, Gf (expr ts n)
  | 0 => fun s => leaf_good (by decide) (by decide) (by decide) (Nat.zero_le _)
  | n + 1 => fun s => by
    have ih := expr_good hS hT n
    unfold expr
    split
    · rename_i hk
      refine leaf_good (by decide) (Int.natCast_nonneg _) ?_ (Nat.zero_le _)
      rcases now_in (ts := ts) s with h | h
      · rw [h] at hk; cases hk
      · have h1 := (hT _ h hk).1
        unfold numB at h1
        simp only [Bool.and_eq_true, decide_eq_true_eq] at h1
        have h2 := h1.2
        omega
    split
    · split
      · exact callOf_good hS ih n (now_short hS s) _
      · exact leaf_good (by decide) (by decide) (by decide) (now_short hS s)
    split
    · exact leaf_good (by decide) (by decide) (by decide) (Nat.zero_le _)
    split
    · exact leaf_good (by decide) (by decide) (by decide) (Nat.zero_le _)
    split
    · exact leaf_good (by decide) (by decide) (by decide) (Nat.zero_le _)
    split
    · exact node_good (by decide) (Nat.zero_le _) (Nat.zero_le _) (Nat.zero_le _) (by decide) (within_good (fun s => Tr.goodL_one (ih s)) _)
    split
    · exact node_good (by decide) (Nat.zero_le _) (Nat.zero_le _) (Nat.zero_le _) (by decide) (within_good (fun s => Tr.goodL_one (ih s)) _)
    split
    · exact binOf_good ih _
    · exact leaf_good (by decide) (by decide) (by decide) (Nat.zero_le _)
theorem blockOf_good {st : PS → Tr × PS} (hs : Gf st) (n : Nat) : Gf (blockOf ts st n) := fun s =>
  node_good (by decide) (Nat.zero_le _) (Nat.zero_le _) (Nat.zero_le _) (by decide) (within_good (fun s => till_good [125] true hs n _) _)
theorem stmt_good (hS : Short ts) (hT : TokOk ts) (m : Nat) : ∀ n, Gf (stmt ts m n)
  | 0 => fun s => leaf_good (by decide) (by decide) (by decide) (Nat.zero_le _)
  | n + 1 => fun s => by
    have he := expr_good hS hT m
    have hb := blockOf_good (ts := ts) (stmt_good hS hT m n) n
    unfold stmt
    split
    · exact node_good (by decide) (name_short hS _) (Nat.zero_le _) (Nat.zero_le _) (types_small _) (Tr.goodL_one (he _))
    split
    · exact node_good (by decide) (Nat.zero_le _) (Nat.zero_le _) (Nat.zero_le _) (by decide) (Tr.goodL_three (he _) (hb _) (hb _))
    split
    · exact node_good (by decide) (Nat.zero_le _) (Nat.zero_le _) (Nat.zero_le _) (by decide) (Tr.goodL_two (he _) (hb _))
    split
    · exact node_good (by decide) (Nat.zero_le _) (Nat.zero_le _) (Nat.zero_le _) (by decide) (Tr.goodL_one (he _))
    split
    · exact node_good (by decide) (Nat.zero_le _) (Nat.zero_le _) (Nat.zero_le _) (by decide) (Tr.goodL_one (callOf_good hS he m (name_short hS _) _))
    · exact node_good (by decide) (Nat.zero_le _) (Nat.zero_le _) (name_short hS _) (by decide) (Tr.goodL_one (he _))
theorem param_good (hS : Short ts) : Gf (param ts) := fun s => node_good (by decide) (name_short hS _) (Nat.zero_le _) (Nat.zero_le _) (types_small _) trivial
theorem funcOf_good (hS : Short ts) (hT : TokOk ts) (m : Nat) : Gf (funcOf ts m) := fun s =>
  node_good (by decide) (name_short hS _) (Nat.zero_le _) (Nat.zero_le _) (types_small _)
    (Tr.goodL_app (list_good [41] (param_good hS) m _) (Tr.goodL_one (node_good (by decide) (Nat.zero_le _) (Nat.zero_le _) (Nat.zero_le _) (by decide)
      (Tr.goodL_app (till_good wReturn false (stmt_good hS hT m m) m _) (Tr.goodL_one (node_good (by decide) (Nat.zero_le _) (Nat.zero_le _) (Nat.zero_le _) (by decide) (Tr.goodL_one (expr_good hS hT m _))))))))
theorem modOf_good (hS : Short ts) (hT : TokOk ts) (m : Nat) : Gf (modOf ts m) := fun s =>
  node_good (by decide) (name_short hS _) (Nat.zero_le _) (Nat.zero_le _) (by decide) (till_good [125] true (funcOf_good hS hT m) m _)
theorem mods_good (hS : Short ts) (hT : TokOk ts) (m : Nat) : ∀ n, GfL (mods ts m n)
  | 0 => fun s => trivial
  | n + 1 => fun s => by
    unfold mods
    split
    · exact trivial
    · show Tr.GoodL (_ :: _)
      rw [Tr.GoodL]
      exact ⟨modOf_good hS hT m s, mods_good hS hT m n _⟩
theorem program_good (hS : Short ts) (hT : TokOk ts) (m : Nat) : (program ts m).1.Good :=
  node_good (by decide) (Nat.zero_le _) (Nat.zero_le _) (Nat.zero_le _) (by decide) (mods_good hS hT m m _)
end Gr
end Go.Proofs.YtljdphpbalioaaaGreatDoor
