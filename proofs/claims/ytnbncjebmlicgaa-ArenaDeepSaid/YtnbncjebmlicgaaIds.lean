/- Slices of IDs: Clone and Index of them. -/
import Derived.Test.YtnbncjebmlicgaaChecked
import Derived.Test.YtnbncjebmlicgaaMapU
namespace Go.Proofs.Ytnbncjebmlicgaa
open Go.RowKit

def U64 (x : Nat) : Value := .int .u64 x
theorem U64_one (l : List Nat) : ∀ u ∈ l.map U64, u.oneCell' = true := fun u hu => by
  obtain ⟨x, -, rfl⟩ := List.mem_map.1 hu
  rfl
def Ids (w : World) (v : Value) (l : List Nat) : Prop := SliceOf (fun _ u (x : Nat) => u = U64 x) w v l
def OwnIds (base : Nat) (w : World) (v : Value) (l : List Nat) : Prop := w.ownsRow base 26 1 v l.length (l.map U64)
theorem rowI : RowTy Try.prog 27 26 1 8 := RowTy.mk' (z := .int .u64 0) Try.underlying27 (by kernel_rfl) rfl (by omega)

theorem Ids.below {w w' : World} {v : Value} {l : List Nat} (h : Ids w v l) (hb : Below w.heap.size w w') : Ids w' v l := by
  obtain ⟨a, c, rfl, hm, hc, hn, h⟩ := h
  refine ⟨a, c, rfl, hm, hc, hn, ?_⟩
  rcases h with h | ⟨g, o, ha, h⟩
  · exact .inl h
  · exact .inr ⟨g, o, ha, fun j x hx => by
      obtain ⟨u, hu, he⟩ := h j x hx
      exact ⟨u, (hb.cell (p := ⟨g, o + j, none⟩) (block_lt_of_cell hu)).trans hu, he⟩⟩
theorem Ids.only {w w' : World} {v : Value} {l : List Nat} {S : Nat → Prop} (h : Ids w v l) (ho : Only w w' S) (hs : ∀ k, S k → ∀ cs fr, w.heap[k]? ≠ some (.cells cs 26 fr)) (ht : ∀ g o n c, v = .slice (some ⟨g, o, none⟩) n c → l ≠ [] → ∃ cs fr, w.heap[g]? = some (.cells cs 26 fr)) : Ids w' v l := by
  obtain ⟨a, c, rfl, hm, hc, hn, h⟩ := h
  refine ⟨a, c, rfl, hm, hc, hn, ?_⟩
  rcases h with h | ⟨g, o, ha, h⟩
  · exact .inl h
  · by_cases hl : l = []
    · exact .inl hl
    · subst ha
      obtain ⟨cs, fr, hg⟩ := ht g o _ _ rfl hl
      refine .inr ⟨g, o, rfl, fun j x hx => ?_⟩
      obtain ⟨u, hu, he⟩ := h j x hx
      have hlt := block_lt_of_cell hu
      refine ⟨u, ?_, he⟩
      rw [← hu]
      have hb := ho.block g hlt fun hS => hs g hS cs fr hg
      unfold World.cell?
      simp only [hb]
theorem OwnIds.ids {base : Nat} {w : World} {v : Value} {l : List Nat} (h : OwnIds base w v l) : Ids w v l := by
  obtain ⟨a, c, rfl, hc, hm, hn, hl, -⟩ := ownsRow_lies h
  refine ⟨a, c, rfl, Nat.le_trans hc hm, hc, hn, ?_⟩
  rcases hl with h0 | ⟨g, o, ha, hr⟩
  · exact .inl (by simpa using h0)
  · exact .inr ⟨g, o, ha, fun j x hx => ⟨U64 x, hr j _ (by rw [List.getElem?_map, hx]; rfl), rfl⟩⟩
theorem OwnIds.base {base base' : Nat} {w : World} {v : Value} {l : List Nat} (h : OwnIds base w v l) (hb : base' ≤ base) : OwnIds base' w v l := ownsRow_base h hb
theorem OwnIds.nil (w : World) (base : Nat) : OwnIds base w (.slice none 0 0) [] := World.ownsRow_nil _ _ _ _
theorem OwnIds.slice {base : Nat} {w : World} {v : Value} {l : List Nat} (h : OwnIds base w v l) : ∃ a c, v = .slice a l.length c := by
  obtain ⟨a, c, e, -⟩ := ownsRow_lies h
  exact ⟨a, c, e⟩
theorem own_none (w : World) (T : Nat) : (w.alloc (.cells #[] T)).ownsRow w.heap.size T 1 (.slice (some ⟨w.heap.size, 0, none⟩) 0 0) 0 [] :=
  ⟨rfl, .inr ⟨_, 0, #[], rfl, Nat.le_refl _, heap_alloc_new w _, Nat.le_refl _, Nat.zero_le _, rfl, rfl⟩⟩

/-- an ID's slice, its cells -/
theorem Ids.lies {w : World} {v : Value} {l : List Nat} (h : Ids w v l) : ∃ a c, v = .slice a l.length c ∧ l.length ≤ maxLen ∧ l.length ≤ c ∧ (a = none → c = 0) ∧ Lies w a (l.map U64) := by
  obtain ⟨a, c, rfl, hm, hc, hn, h⟩ := h
  refine ⟨a, c, rfl, hm, hc, hn, ?_⟩
  rcases h with h | ⟨g, o, ha, h⟩
  · exact .inl (by rw [h]; rfl)
  · refine .inr ⟨g, o, ha, fun j u hu => ?_⟩
    rw [List.getElem?_map] at hu
    cases hx : l[j]? with
    | none => rw [hx] at hu; cases hu
    | some x =>
      rw [hx] at hu
      obtain ⟨u', hu', rfl⟩ := h j x hx
      cases hu
      exact hu'

set_option maxRecDepth 10000 in
set_option maxHeartbeats 400000 in
theorem idclone_any (v : Value) (l : List Nat) (w : World) (hv : Ids w v l) (hbig : l.length ≤ 1000000000) :
    Calls Try.prog 45 #[v] w fun e w' => ∃ v', e = .returned v' ∧ OwnIds w.heap.size w' v' l ∧ Below w.heap.size w w' := by
  have hb : Below w.heap.size w (w.alloc (.cells #[] 26)) := (Below.refl _ _).alloc (Nat.le_refl _) _
  obtain ⟨a, c, rfl, hm, hc, hn, hl⟩ := (hv.below hb).lies
  have hone := U64_one l
  have hll : (l.map U64).length = l.length * 1 := by simp
  obtain ⟨n, hnl⟩ : ∃ n, n = l.length := ⟨_, rfl⟩
  have HNL := Lib.hid hnl
  have HL := Lib.hid hl
  have HONE := Lib.hid hone
  have HLL := Lib.hid hll
  have HOWN := Lib.hid (own_none w 26)
  rw [← hnl] at hm hc hbig ⊢
  have he := fun (w : World) (a : Option Addr) (n c n' c' : Nat) => Lib.run_eql_slice_nil (P := Try.prog) w 27 26 a n c n' c' Try.underlying27
  clear hl hone hll
  cases a with
  | none =>
    have hc0 := hn rfl
    subst hc0
    have hp : l = [] := List.length_eq_zero_iff.1 (by omega)
    subst hp
    have hn0 : n = 0 := hnl
    subst hn0
    clear HL HONE HLL HOWN hnl hb
    go_enter Try.func45, Try.ntmps45
    go_wp2
    go_ret
    exact ⟨_, rfl, OwnIds.nil _ _, Below.refl _ _⟩
  | some ad =>
    clear hnl
    have HM := Lib.hid (And.intro hm (And.intro hc hbig))
    have HN := Lib.hid hn
    have hsz := hb.size
    go_enter Try.func45, Try.ntmps45
    go_wp2_with (at_builtin; refine wpList_app rfl _ _ 27 26 1 8 rowI rfl w.heap.size _ 0 [] rfl HOWN.out (some ad) n c (l.map U64) rfl (by rw [HNL.out]; exact HLL.out) HL.out HM.out.2.1 HN.out HONE.out (by unfold maxLen; have := HM.out.2.2; omega) (by have := HM.out.2.2; omega) hsz ?_; intro v' w1 h1 _ h3)
    go_ret
    rw [Nat.zero_add, List.nil_append, HNL.out] at h1
    exact ⟨_, rfl, h1, hb.trans h3⟩

/-- where an ID stands; below 0: nowhere -/
def idxI (l : List Nat) (x : Nat) : Int := match l.findIdx? (· == x) with | some k => (k : Int) | none => -1

theorem idxI_hit {l : List Nat} {x k : Nat} (hk : l[k]? = some x) (hb : ∀ j, j < k → l[j]? ≠ some x) : idxI l x = (k : Int) := by
  have h : l.findIdx? (· == x) = some k := by
    rw [List.findIdx?_eq_some_iff_getElem]
    have hlt := (List.getElem?_eq_some_iff.1 hk).1
    refine ⟨hlt, by rw [(List.getElem?_eq_some_iff.1 hk).2]; simp, fun j hj => ?_⟩
    have := hb j hj
    rw [List.getElem?_eq_getElem (by omega)] at this
    simpa using this
  unfold idxI
  rw [h]
theorem idxI_miss {l : List Nat} {x : Nat} (hb : ∀ j, j < l.length → l[j]? ≠ some x) : idxI l x = -1 := by
  have h : l.findIdx? (· == x) = none := by
    rw [List.findIdx?_eq_none_iff]
    intro y hy
    obtain ⟨j, hj, rfl⟩ := List.mem_iff_getElem.1 hy
    have := hb j hj
    rw [List.getElem?_eq_getElem hj] at this
    simpa using this
  unfold idxI
  rw [h]

set_option maxRecDepth 10000 in
set_option maxHeartbeats 800000 in
theorem idindex_any (v : Value) (l : List Nat) (x : Nat) (w : World) (hv : Ids w v l) :
    Calls Try.prog 37 #[v, .int .u64 x] w fun e w' => e = .returned (.int .i64 (idxI l x)) ∧ w' = w := by
  obtain ⟨a, c, rfl, hm, hc, hn, hrow⟩ := hv
  have HR := Lib.hid hrow
  obtain ⟨L, hL⟩ : ∃ L, L = l.length := ⟨_, rfl⟩
  rw [← hL] at hm hc ⊢
  have HL := Lib.hid hL
  unfold maxLen at hm
  clear hrow hL hn
  go_enter Try.func37, Try.ntmps37
  go_wp2
  go_loopw [5, 8] (fun _ i wr => ∃ k : Nat, k ≤ L ∧ i = .int .i64 k ∧ wr = w ∧ Hid (∀ j, j < k → l[j]? ≠ some x)) (fun _ i _ => L - (intOf i).toNat)
  case atStart => exact ⟨0, by omega, rfl, rfl, Lib.hid fun j hj => absurd hj (Nat.not_lt_zero j)⟩
  case round =>
    obtain ⟨k, hk, rfl, rfl, hno⟩ := hrel
    by_cases hlt : k < L
    · have d1 : decide ((k : Int) < (L : Int)) = true := decide_eq_true (by omega)
      have d1n : decide (k < L) = true := decide_eq_true hlt
      have hkl : k < l.length := by rw [← HL.out]; exact hlt
      rcases HR.out with h0 | ⟨gb, ob, rfl, hcell⟩
      · rw [h0] at hkl; simp at hkl
      obtain ⟨u, hu, rfl⟩ := hcell k _ (List.getElem?_eq_getElem hkl)
      have hy : l[k]? = some l[k] := List.getElem?_eq_getElem hkl
      generalize l[k] = y at *
      have HY := Lib.hid hy
      unfold U64 at hu
      clear hcell hy hkl
      by_cases hxy : x = y
      · subst hxy
        have HNO := Lib.hid (idxI_hit HY.out hno.out)
        have q1 : ((x : Int) == (x : Int)) = true := beq_self_eq_true _
        clear hno HY
        go_wp2
        go_ret
        exact ⟨by rw [HNO.out]; rfl, rfl⟩
      · have q1 : ((x : Int) == (y : Int)) = false := beq_false_of_ne (by omega)
        have q2 : decide ((x : Int) = (y : Int)) = false := decide_eq_false (by omega)
        have HNO : Hid (∀ j, j < k + 1 → l[j]? ≠ some x) := Lib.hid fun j hj => by
          rcases Nat.lt_succ_iff_lt_or_eq.1 hj with h | rfl
          · exact hno.out j h
          · rw [HY.out]; intro e; cases e; exact hxy rfl
        clear hno HY
        go_wp2
        go_roundw
        case rel => exact ⟨k + 1, by omega, by go_num, by first | rfl | trivial, HNO⟩
        case measure => simp [intOf]; omega
    · have d1 : decide ((k : Int) < (L : Int)) = false := decide_eq_false (by omega)
      have d1n : decide (k < L) = false := decide_eq_false hlt
      have e : idxI l x = -1 := idxI_miss fun j hj => hno.out j (by rw [← HL.out] at hj; omega)
      have HE := Lib.hid e
      clear e hno
      go_wp2
      go_ret
      exact ⟨by rw [HE.out]; rfl, rfl⟩
end Go.Proofs.Ytnbncjebmlicgaa
