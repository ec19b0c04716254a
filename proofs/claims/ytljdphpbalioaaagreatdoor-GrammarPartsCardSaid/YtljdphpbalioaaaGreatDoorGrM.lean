/- Maps of whatever keys, their entries as a function of the key. -/
import Derived.Test.YtljdphpbalioaaaGreatDoorGrT
import Derived.Maps.OwnSet
import Derived.Maps.Views
import Derived.DeepKeys3
namespace Go.Proofs.YtljdphpbalioaaaGreatDoor
open Go.RowKit Go.Maps

/-- block b is a map; f: what stands at a key; N: no more entries than so many -/
def MapV {κ : Type} (P : Program) (k : TypeId) (enc : κ → Value) (w : World) (b N : Nat) (f : κ → Option Value) : Prop :=
  ∃ n D, n ≤ N ∧ w.ownsMap P k rawE b n D ∧ ∀ key kl, keyOf P k (enc key) = some kl → Maps.has D kl = (f key).isSome ∧ ∀ z, D.atKey kl (.held z) = .held ((f key).getD z)
def putV {κ α : Type} [DecidableEq κ] (f : κ → Option α) (key : κ) (v : α) : κ → Option α := fun x => if x = key then some v else f x
section
variable {κ : Type} {P : Program} {k e t : TypeId} {enc : κ → Value} {w w' : World} {b N : Nat} {f : κ → Option Value}
theorem MapV.lt (h : MapV P k enc w b N f) : b < w.heap.size := by
  obtain ⟨n, D, -, h1, -⟩ := h
  exact h1.lt
theorem MapV.obj (h : MapV P k enc w b N f) : ∃ es c, w.heap[b]? = some (.map es c) := by
  obtain ⟨n, D, -, ⟨es, c, h1, -⟩, -⟩ := h
  exact ⟨es, c, h1⟩
theorem MapV.only {S : Nat → Prop} (h : MapV P k enc w b N f) (ho : Only w w' S) (hs : ¬ S b) : MapV P k enc w' b N f := by
  obtain ⟨n, D, hn, h1, h2⟩ := h
  obtain ⟨es, clock, hb, F, hn', hD⟩ := id h1
  exact ⟨n, D, hn, ⟨es, clock, (ho.block b h1.lt hs).trans hb, F, hn', hD⟩, h2⟩
theorem MapV.below (h : MapV P k enc w b N f) (hb : Below w.heap.size w w') : MapV P k enc w' b N f := h.only (Only.of_below hb fun _ => False) fun h => h
theorem MapV.new (P : Program) (k : TypeId) (w : World) : MapV P k enc (w.alloc (.map #[] 0)) w.heap.size 0 (fun _ => none) :=
  ⟨0, .map [], Nat.le_refl _, World.ownsMap_made w P k rawE, fun _ _ _ => ⟨rfl, fun _ => rfl⟩⟩
theorem MapV.mono (h : MapV P k enc w b N f) {N' : Nat} (hN : N ≤ N') : MapV P k enc w b N' f := by
  obtain ⟨n, D, hn, h1, h2⟩ := h
  exact ⟨n, D, Nat.le_trans hn hN, h1, h2⟩
/-- 'v, ok := m[x]' -/
theorem MapV.look (h : MapV P k enc w b N f) (K : Keyed P k) (ht : P.underlying t = some (.map k e)) {z : Value} (hz : (zeroValue e).run P w = .ok z w) (key : κ) (hk : (keyOf P k (enc key)).isSome) :
    (Instr.lookup t (.map (some b)) (enc key) true).run P w = .ok (.tuple #[(f key).getD z, .bool (f key).isSome]) w := by
  obtain ⟨n, D, hn, h1, h2⟩ := h
  obtain ⟨kl, hkl⟩ := Option.isSome_iff_exists.1 hk
  obtain ⟨v, ps, hrun, hv⟩ := h1.look_ok K ht hz (zd := .held z) (zp := []) rfl hkl
  rw [(h2 key kl hkl).2 z] at hv
  rw [(h2 key kl hkl).1] at hrun
  cases hv
  exact hrun
/-- 'm[x]' -/
theorem MapV.look1 (h : MapV P k enc w b N f) (K : Keyed P k) (ht : P.underlying t = some (.map k e)) {z : Value} (hz : (zeroValue e).run P w = .ok z w) (key : κ) (hk : (keyOf P k (enc key)).isSome) :
    (Instr.lookup t (.map (some b)) (enc key) false).run P w = .ok ((f key).getD z) w := by
  obtain ⟨n, D, hn, h1, h2⟩ := h
  obtain ⟨kl, hkl⟩ := Option.isSome_iff_exists.1 hk
  obtain ⟨v, ps, hrun, hv⟩ := h1.lookup K ht hz (zd := .held z) (zp := []) rfl hkl
  rw [(h2 key kl hkl).2 z] at hv
  cases hv
  exact hrun
/-- 'm[x] = v' -/
theorem MapV.store [DecidableEq κ] (h : MapV P k enc w b N f) (K : Keyed P k) (ht : P.underlying t = some (.map k e)) (hinj : ∀ a b, enc a = enc b → a = b) (key : κ) (v : Value) (hk : (keyOf P k (enc key)).isSome) (hN : N < maxLen) :
    ∃ w', (Instr.mapUpdate t (.map (some b)) (enc key) v).run P w = .ok () w' ∧ MapV P k enc w' b (N + 1) (putV f key v) ∧ Only w w' (fun q => q = b) ∧ w'.heap.size = w.heap.size := by
  obtain ⟨n, D, hn, h1, h2⟩ := h
  obtain ⟨kl, hkl⟩ := Option.isSome_iff_exists.1 hk
  obtain ⟨w', hrun, h3, h4⟩ := h1.store K ht (by omega) hkl (val := v) (d := .held v) (ps := []) rfl
  have ho := Only.of_grown h4.grown
  refine ⟨w', hrun, ⟨n + 1, _, by omega, h3, fun key2 kl2 hk2 => ?_⟩, ho.mono (fun i _ e => by cases e; rfl), turned_size h4⟩
  by_cases hkk : key2 = key
  · subst hkk
    rw [hkl] at hk2
    cases hk2
    have e1 : putV f key2 v key2 = some v := by simp [putV]
    rw [e1]
    exact ⟨has_put_same h1.isMap (K.key hkl) _, fun z => atKey_put_same h1.isMap (K.key hkl) _ _⟩
  · have hne : kl2 ≠ kl := fun e => by subst e; exact hkk (hinj _ _ (K.inj hk2 hkl))
    have e1 : putV f key v key2 = f key2 := by simp [putV, hkk]
    rw [e1, has_put_other hne]
    exact ⟨(h2 key2 kl2 hk2).1, fun z => by rw [atKey_put_other hne]; exact (h2 key2 kl2 hk2).2 z⟩
end

/-! the maps of this program -/
theorem und_str : Tryz.prog.underlying 9 = some .string := Tryz.underlying9
theorem keyedS : Keyed Tryz.prog 9 := string_keyed und_str
theorem keyS (x : List UInt8) (hx : x.length ≤ 1000000) : (keyOf Tryz.prog 9 (.string (mk8 x))).isSome := by
  rw [WideMaps.keyOf_string_mk und_str (by show x.toArray.size ≤ maxLen; rw [List.size_toArray]; unfold maxLen; omega)]
  rfl
theorem undMB : Tryz.prog.underlying 52 = some (.map 9 4) := Tryz.underlying52
theorem undMT : Tryz.prog.underlying 99 = some (.map 9 47) := Tryz.underlying99
theorem undMF : Tryz.prog.underlying 51 = some (.map 81 47) := Tryz.underlying51
theorem keyedF : Keyed Tryz.prog 81 := Keyed.of_law (deep_law (m := 5) (by decide) (by kernel_rfl) (by kernel_rfl) (by kernel_rfl))
def fullV (m x : List UInt8) : Value := .agg #[.string (mk8 m), .string (mk8 x)]
theorem keyF (m x : List UInt8) (hm : m.length ≤ 1000000) (hx : x.length ≤ 1000000) : (keyOf Tryz.prog 81 (fullV m x)).isSome := by
  have hu := Tryz.underlying81
  have h1 : Tryz.prog.keyType 81 = true := by kernel_rfl
  have h2 : (fullV m x).formed Tryz.prog 81 = true := by
    unfold fullV Value.formed
    rw [hu]
    kernel_rfl
  have e1 : ∀ l : List UInt8, l.length ≤ 1000000 → (mk8 l).size ≤ maxLen := fun l hl => by
    show l.toArray.size ≤ maxLen
    rw [List.size_toArray]
    unfold maxLen
    omega
  unfold keyOf
  rw [hu]
  simp only [h1, h2, Bool.and_self, if_true]
  obtain ⟨q, hq⟩ : ∃ q, Tryz.prog.types.size = q + 1 := ⟨Tryz.prog.types.size - 1, by kernel_rfl⟩
  rw [hq]
  have hc2 : Tryz.prog.cellsOf 81 = 2 := by kernel_rfl
  have hc1 : Tryz.prog.cellsOf 9 = 1 := by kernel_rfl
  have hs1 := e1 m hm
  have hs2 := e1 x hx
  unfold Program.keyLits
  rw [hu]
  simp only [fullV, Value.cells, hc2]
  simp [hc1, Program.keyLits, hs1, hs2]
end Go.Proofs.YtljdphpbalioaaaGreatDoor
