/- Walk: the document's Take: a field off the front, as it was asked. -/
import Derived.Test.YtddhnenlfdpomaaTake
import Derived.Test.YtddhnenlfdpomaaNumber
import Derived.Test.YtddhnenlfdpomaaDec
import Derived.Test.YtddhnenlfdpomaaCut
import Derived.RegionTactic
import Derived.BigRegion
import Derived.StillTailTactics
namespace Go.Proofs.Ytddhnenlfdpomaa
open Go.RowKit

theorem num_of_dec {p r : List UInt8} {n most : Nat} (h : Rd.dec 0 0 p = some (n, r)) : Rd.num most (some p) = if n ≤ most then (n, some r) else (0, none) := by
  unfold Rd.num; simp [h]

theorem two_new (w : World) (x y z : Obj) : ((((w.alloc x).alloc y).alloc z).heap[w.heap.size]? = some x) :=
  ((bal (bre _) z).block w.heap.size (by simp; omega)).trans (((bal (bre _) y).block w.heap.size (by simp)).trans (heap_alloc_new w x))

/-- what the document's Take tells -/
def TakeSays (v : Value) (f : Fld) (p : List UInt8) (e : Ending) : Prop :=
  ∃ u, e = .returned (.tuple #[takeOf f (some p), u, .bool (takeRest f (some p)).isSome]) ∧ ∀ W, Bytes W v p → Bytes W u ((takeRest f (some p)).getD [])

theorem TakeSays.of {v : Value} {f : Fld} {p q : List UInt8} {x : Value} {b : Bool} {u : Value} (h1 : takeOf f (some p) = x) (h2 : takeRest f (some p) = if b then some q else none) (h3 : b = false → q = []) (h4 : ∀ W, Bytes W v p → Bytes W u q) :
    TakeSays v f p (.returned (.tuple #[x, u, .bool b])) := by
  refine ⟨u, ?_, ?_⟩
  · rw [h1, h2]; cases b <;> rfl
  · rw [h2]; cases b
    · rw [h3 rfl] at h4; exact h4
    · exact h4

theorem rt_fin {v : Value} {f : Fld} {p q : List UInt8} {x u : Value} {b : Bool} {w w2 w' : World} {g : Nat} (hg : w.heap.size = g) (hw : Below g w w2) (hb : Below g w2 w') (h1 : takeOf f (some p) = x) (h2 : takeRest f (some p) = if b then some q else none)
    (h3 : b = false → q = []) (h4 : ∀ W, Bytes W v p → Bytes W u q) : TakeSays v f p (.returned (.tuple #[x, u, .bool b])) ∧ Below w.heap.size w w' := by
  subst hg
  exact ⟨TakeSays.of h1 h2 h3 h4, hw.trans hb⟩

/-- 'v[k:]', in whatever world -/
theorem run_suffix_all {P : Program} {w : World} {a : Option Addr} {n c : Nat} {l : List UInt8} (h : Bytes w (.slice a n c) l) (k t e : Nat) (hk : k ≤ l.length)
    (T : RowTy P t e 1 1) : ∃ A N C, (∀ w', (Instr.slice t (.slice a n c) (some (.int .i64 k)) none none).run P w' = .ok (.slice A N C) w') ∧ (∀ W, Bytes W (.slice a n c) l → Bytes W (.slice A N C) (l.drop k)) ∧ N = l.length - k := by
  obtain ⟨a', c', e1, h1, h2, _⟩ := h
  cases e1
  refine ⟨_, _, _, fun w' => ?_, fun W hW => Bytes.suffix hW k hk, rfl⟩
  obtain ⟨i, z, hi, hz, hsz, hby, hzs⟩ := T.ex
  have hb : (sizeOf e).run P w' = .ok 1 w' := by simp [sizeOf, typeInfo, hi, hsz]
  have hkn : (k : Int) ≤ (l.length : Nat) := by omega
  simp [Instr.slice, run_underlying T.ht, Instr.sliceBounds, run_sliceBound, hb, hkn]

/-- 'v[k:j]' -/
theorem run_mid {P : Program} {w : World} {a : Option Addr} {n c : Nat} {l : List UInt8} (h : Bytes w (.slice a n c) l) (k j t e : Nat) (hk : k ≤ j) (hj : j ≤ l.length)
    (T : RowTy P t e 1 1) : ∃ A C, (∀ w', (Instr.slice t (.slice a n c) (some (.int .i64 k)) (some (.int .i64 j)) none).run P w' = .ok (.slice A (j - k) C) w') ∧ Bytes w (.slice A (j - k) C) ((l.take j).drop k) := by
  have hf := SliceOf.firsts h j hj
  have hlt : (l.take j).length = j := by rw [List.length_take]; omega
  have hs := Bytes.suffix hf k (by omega)
  obtain ⟨a', c', e1, h1, h2, _⟩ := h
  cases e1
  refine ⟨_, _, fun w' => ?_, hs⟩
  obtain ⟨i, z, hi, hz, hsz, hby, hzs⟩ := T.ex
  have hb : (sizeOf e).run P w' = .ok 1 w' := by simp [sizeOf, typeInfo, hi, hsz]
  have hkn : (k : Int) ≤ (j : Nat) := by omega
  have hjn : (j : Int) ≤ (c : Nat) := by omega
  simp [Instr.slice, run_underlying T.ht, Instr.sliceBounds, run_sliceBound, hb, hkn, hjn]

set_option maxRecDepth 10000 in
set_option maxHeartbeats 1600000 in
theorem rtake1_any (v : Value) (p : List UInt8) (f : Fld) (w : World) (hv : Bytes w v p) (h : f.kind % 5 = 1) :
    Calls Try.prog 18 #[v, FldV f] w fun e w' => TakeSays v f p e ∧ Below w.heap.size w w' := by
  have hT : ∀ o, takeOf f o = .agg #[.int .u8 f.kind, .int .u64 (IntKind.u64.wrap (Rd.int o).1), .string ⟨#[]⟩, .int .u64 f.most] := fun o => if_pos h
  have hR : ∀ o, takeRest f o = (Rd.int o).2 := fun o => if_pos h
  have HT := Lib.hid hT
  have HR := Lib.hid hR
  clear hT hR
  obtain ⟨kind, n, s, most, hk, hn, hm⟩ := f
  have HV := Lib.hid hv
  obtain ⟨a, c, rfl, hmax, hcap, _⟩ := hv
  have hmax2 : p.length ≤ 9223372036854775807 := by unfold maxLen at hmax; omega
  unfold FldV Fld.cells
  simp only at h ⊢
  go_enter Try.func18, Try.ntmps18
  go_wp2_with fail
  have hG0 := two_new w (.cells #[.int .u8 kind, .int .u64 n, .string s, .int .u64 most] 40) (.cells #[.int .u8 0, .int .u64 0, .string ⟨#[]⟩, .int .u64 0] 40) (.cells #[.int .u8 kind, .int .u64 0, .string ⟨#[]⟩, .int .u64 most] 40)
  obtain ⟨hG1, hG2⟩ := three_new w (.cells #[.int .u8 kind, .int .u64 n, .string s, .int .u64 most] 40) (.cells #[.int .u8 0, .int .u64 0, .string ⟨#[]⟩, .int .u64 0] 40) (.cells #[.int .u8 kind, .int .u64 0, .string ⟨#[]⟩, .int .u64 most] 40)
  have hbW := bal (bal (bal (bre w) (.cells #[.int .u8 kind, .int .u64 n, .string s, .int .u64 most] 40)) (.cells #[.int .u8 0, .int .u64 0, .string ⟨#[]⟩, .int .u64 0] 40)) (.cells #[.int .u8 kind, .int .u64 0, .string ⟨#[]⟩, .int .u64 most] 40)
  generalize (((w.alloc (.cells #[.int .u8 kind, .int .u64 n, .string s, .int .u64 most] 40)).alloc (.cells #[.int .u8 0, .int .u64 0, .string ⟨#[]⟩, .int .u64 0] 40)).alloc (.cells #[.int .u8 kind, .int .u64 0, .string ⟨#[]⟩, .int .u64 most] 40)) = W at *
  refine (number_any _ p W (HV.out.below hbW)).mono ?_
  rintro e w1 ⟨rfl, rfl⟩
  obtain ⟨b0, b1, b2, b3, er⟩ := row4 hG0
  obtain ⟨c0, c1, c2, c3, fr⟩ := row4 hG1
  obtain ⟨d0, d1, d2, d3, gr⟩ := row4 hG2
  have HW := Lib.hid hbW
  clear hG0 hG1 hG2 hbW
  cases hdec : Rd.dec 0 0 p with
  | none =>
    rw [numOf_none hdec]
    have e1 := HT.out (some p)
    have e2 := HR.out (some p)
    rw [show Rd.int (some p) = (0, none) by unfold Rd.int; rw [Rd.num_none (by simpa using hdec)]; rfl] at e1 e2
    have E1 := Lib.hid e1
    have E2 := Lib.hid e2
    clear e1 e2 hdec
    generalize hg : w.heap.size = g at *
    have HG := Lib.hid hg
    clear hg
    go_wp2_with fail
    all_goals
      refine bodyPost_ret (v := .tuple #[.agg #[.int .u8 kind, .int .u64 0, .string ⟨#[]⟩, .int .u64 most], .slice none 0 0, .bool false]) (by simp [results, Try.results18, go_sem, c0, c1, c2, c3]) rfl ?_
      exact rt_fin (b := false) (q := []) HG.out HW.out (by repeat (first | exact Below.refl _ _ | refine Below.drew ?_ | refine bset ?_ _ _ _ (by omega))) E1.out E2.out (fun _ => rfl) (fun _ _ => (Own8.nil 5 0 _).bytes)
  | some q =>
    obtain ⟨m, r⟩ := q
    obtain ⟨hp, hm64, hn1, hn2, hpos⟩ := dec_front hdec
    have hdrop : p.drop (Vi.varint m).length = r := by rw [hp]; simp
    have hle2 : (Vi.varint m).length ≤ p.length := by rw [hp]; simp
    have hrl : p.length - (Vi.varint m).length = r.length := by rw [hp]; simp
    have e1 := HT.out (some p)
    have e2 := HR.out (some p)
    rw [show Rd.int (some p) = (zag m, some r) by unfold Rd.int; rw [num_of_dec hdec, if_pos (by omega)]] at e1 e2
    obtain ⟨A, N, C, hrun, hby, hN⟩ := run_suffix_all (P := Try.prog) HV.out (Vi.varint m).length 24 5 hle2 row8
    rw [hdrop] at hby
    have HY := Lib.hid hby
    have E1 := Lib.hid e1
    have E2 := Lib.hid e2
    clear e1 e2 hdec hp hdrop hby hN hrl
    rw [hn1, hn2]
    clear hn1 hn2
    generalize (Vi.varint m).length = K at *
    generalize hg : w.heap.size = g at *
    have HG := Lib.hid hg
    clear hg
    go_wp2_with (go_at_call 38; refine (zag_any m _ hm64).mono ?_; rintro e w2 ⟨rfl, rfl⟩)
    go_region
    all_goals
      go_wp2_with fail
      refine bodyPost_ret (v := .tuple #[.agg #[.int .u8 kind, .int .u64 (IntKind.u64.wrap (zag m)), .string ⟨#[]⟩, .int .u64 most], .slice A N C, .bool true]) (by simp [results, Try.results18, go_sem, c0, c1, c2, c3]) rfl ?_
      exact rt_fin (b := true) (q := r) HG.out HW.out (by repeat (first | exact Below.refl _ _ | refine Below.drew ?_ | refine bset ?_ _ _ _ (by omega))) E1.out E2.out (fun h => by cases h) HY.out
end Go.Proofs.Ytddhnenlfdpomaa
