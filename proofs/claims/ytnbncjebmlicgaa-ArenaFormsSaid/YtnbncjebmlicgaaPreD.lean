/- Merged: ArCopy ArIds ArSame ArSameB ArRows ArFew ArRput. -/
import Derived.Test.YtnbncjebmlicgaaArTree
import Derived.Shelf.SlMaps.Clone
import Derived.Test.YtnbncjebmlicgaaPreA
/- Walk: Copy; what a nil arena answers. -/
namespace Go.Proofs.Ytnbncjebmlicgaa
open Go.RowKit

set_option maxRecDepth 10000 in
set_option maxHeartbeats 800000 in
theorem mapclone_any (b : Nat) (es : Array MapEntry) (clock : Nat) (w : World) (hb : w.heap[b]? = some (.map es clock)) :
    Calls Try.prog 38 #[.map (some b)] w fun e w' => e = .returned (.map (some w.heap.size)) ∧ w' = w.alloc (.map es clock) := by
  have hq := fun w => run_eql_map_nil_sl (P := Try.prog) w 68 _ _ (some b) Try.underlying68
  go_enter Try.func38, Try.ntmps38
  go_wp2
  rw [run_callFunc_extern Try.func62 (by kernel_rfl) (by kernel_rfl) (by kernel_rfl) (e := Extern.MapsClone.clone) (by kernel_rfl), run_maps_clone_sl w 68 hb]
  simp only [Result.andThen]
  rw [Oper.upon_value]
  go_wp2
  rw [run_typeAssert_map_sl _ 68 20 _ _ _ Try.underlying68]
  simp only [Result.andThen]
  rw [Oper.upon_value]
  go_wp2
  go_ret
  exact ⟨rfl, rfl⟩

set_option maxRecDepth 10000 in
theorem arcopy_nil (w : World) : Calls Try.prog 14 #[.pointer none] w fun e w' => e = .returned (.pointer none) ∧ w' = w := by
  go_enter Try.func14, Try.ntmps14
  go_wp2
  go_ret
  exact ⟨rfl, rfl⟩

set_option maxRecDepth 10000 in
set_option maxHeartbeats 800000 in
theorem arcopy_any (g b : Nat) (l : List (Nat × Nd)) (w : World) (h : ArAt w g b l) :
    Calls Try.prog 14 #[.pointer (some ⟨g, 0, none⟩)] w fun e w' => ∃ g' b', e = .returned (.pointer (some ⟨g', 0, none⟩)) ∧ ArAt w' g' b' l ∧ w.heap.size ≤ g' ∧ w.heap.size ≤ b' ∧ Below w.heap.size w w' := by
  have c0 := h.c0
  obtain ⟨vl, h1, h2⟩ := h.ex
  obtain ⟨es, clock, hb, F, hs, hD⟩ := h1.1
  have hb1 := bal (bre w) (.map es clock)
  have hm : MapU Try.prog 26 (w.alloc (.map es clock)) w.heap.size vl := ⟨⟨es, clock, (MapKept.heap_alloc w _).1, F, hs, hD⟩, h1.2⟩
  have HM := Lib.hid hm
  have HB1 := Lib.hid hb1
  have HST := Lib.hid h2
  have HB := Lib.hid hb
  have HNF := Lib.hid (And.intro h.nz h.few)
  clear h h1 h2 hb F hs hD hb1 hm
  go_enter Try.func14, Try.ntmps14
  go_wp2_with fail
  refine (mapclone_any b es clock w HB.out).mono ?_
  rintro e w1 ⟨rfl, rfl⟩
  go_wp2_with fail
  go_ret
  have hb2 := bal HB1.out (.cells #[.map (some w.heap.size)] 70)
  exact ⟨_, w.heap.size, rfl, ⟨(two_new w _ _).2, ⟨vl, HM.out.below (bal (bre _) _), HST.out.mono fun v n hn => hn.below hb2⟩, HNF.out.1, HNF.out.2⟩, by omega, Nat.le_refl _, hb2⟩

set_option maxRecDepth 10000 in
set_option maxHeartbeats 800000 in
theorem artree_nil (w : World) : Calls Try.prog 12 #[.pointer none] w fun e w' => e = .returned (.bool false) ∧ Below w.heap.size w w' := by
  go_enter Try.func12, Try.ntmps12
  go_wp2_with fail
  refine (arroot_nil w).mono ?_
  rintro e w0 ⟨rfl, hw⟩
  have hw' := hw.symm
  subst hw'
  clear hw
  go_wp2_with fail
  refine (arget_nil 0 w).mono ?_
  rintro e w1 ⟨rfl, hb1⟩
  have HB := Lib.hid hb1
  clear hb1
  unfold NdVal Nd.zero
  go_wp2_with fail
  go_ret
  exact ⟨rfl, bal HB.out _⟩

set_option maxRecDepth 10000 in
set_option maxHeartbeats 800000 in
theorem arabove_nil (x kind : Nat) (w : World) (hx' : x < 18446744073709551616) : Calls Try.prog 13 #[.pointer none, .int .u64 x, .int .u8 kind] w fun e w' => e = .returned (.int .u64 0) ∧ Below w.heap.size w w' := by
  have hmm := @run_makeMap Try.prog
  have hb0 := bal (bre w) (.map #[] 0)
  have HB0 := Lib.hid hb0
  by_cases hx : x = 0
  · subst hx
    clear hb0
    go_enter Try.func13, Try.ntmps13
    go_wp2_with fail
    refine wp_loop_rounds 1 ?_
    rw [rounds_succ]
    go_wp2_with fail
    go_ret
    exact ⟨rfl, HB0.out⟩
  · have q1 : ((x : Int) == 0) = false := beq_false_of_ne (by omega)
    have q2 : decide ((x : Int) = 0) = false := decide_eq_false (by omega)
    have q3 : ((x : Int) != 0) = true := by rw [bne, q1]; rfl
    have q4 : ¬ (x : Int) = 0 := by omega
    have hx64 : x < 18446744073709551616 := hx'
    have hlk := (MapU.new (P := Try.prog) (k := 26) w).look1 (t := 74) Try.underlying26 Try.underlying74 (z := .bool false) (by kernel_rfl) x hx64
    replace hlk : (Instr.lookup 74 (.map (some w.heap.size)) (.int .u64 x) false).run Try.prog (w.alloc (.map #[] 0)) = .ok (.bool false) (w.alloc (.map #[] 0)) := hlk
    clear hb0 hx hx64 hx'
    go_enter Try.func13, Try.ntmps13
    go_wp2_with fail
    go_loopw [1, 8, 9] (fun i _ _ wr => i = .int .u64 x ∧ wr = w.alloc (.map #[] 0)) (fun _ _ _ _ => 0)
    case atStart => exact ⟨rfl, rfl⟩
    case round =>
      obtain ⟨rfl, rfl⟩ := hrel
      go_wp2_with fail
      refine (arget_nil x _).mono ?_
      rintro e w1 ⟨rfl, hb1⟩
      have HB1 := Lib.hid (btr HB0.out hb1)
      clear hb1
      unfold NdVal Nd.zero
      go_wp2_with fail
      go_ret
      exact ⟨rfl, bal HB1.out _⟩

set_option maxRecDepth 10000 in
theorem arids_nil (w : World) : Calls Try.prog 23 #[.pointer none] w fun e w' => e = .returned (.slice none 0 0) ∧ w' = w := by
  go_enter Try.func23, Try.ntmps23
  go_wp2
  go_ret
  exact ⟨rfl, rfl⟩
set_option maxRecDepth 10000 in
theorem arbytes_nil (w : World) : Calls Try.prog 30 #[.pointer none] w fun e w' => e = .returned (.slice none 0 0) ∧ w' = w := by
  go_enter Try.func30, Try.ntmps30
  go_wp2
  go_ret
  exact ⟨rfl, rfl⟩
end Go.Proofs.Ytnbncjebmlicgaa
/- Walk: equal, Equal of IDs; Same of arenas. -/
namespace Go.Proofs.Ytnbncjebmlicgaa
open Go.RowKit

/-- two nodes are alike -/
def ndSame (m n : Nd) : Bool := decide (m.kind = n.kind) && decide (m.name = n.name) && decide (m.num = n.num) && decide (m.typ = n.typ) && decide (m.ref = n.ref) && decide (m.kids = n.kids)
theorem ndSame_iff (m n : Nd) : ndSame m n = true ↔ m = n := by
  unfold ndSame
  cases m
  cases n
  simp [and_assoc]

set_option maxRecDepth 10000 in
set_option maxHeartbeats 1600000 in
theorem idequal_any (v u : Value) (l m : List Nat) (w : World) (hv : Ids w v l) (hu : Ids w u m) :
    Calls Try.prog 68 #[v, u] w fun e w' => e = .returned (.bool (decide (l = m))) ∧ ∃ n, w' = w.drewN n := by
  obtain ⟨a, c, rfl, hm, hc, -, hrow⟩ := hv
  obtain ⟨a2, c2, rfl, hm2, hc2, -, hrow2⟩ := hu
  have HR := Lib.hid hrow
  have HR2 := Lib.hid hrow2
  obtain ⟨L, hL⟩ : ∃ L, L = l.length := ⟨_, rfl⟩
  rw [← hL] at hm hc ⊢
  have HL := Lib.hid hL
  obtain ⟨M, hM⟩ : ∃ L, L = m.length := ⟨_, rfl⟩
  rw [← hM] at hm2 hc2 ⊢
  have HM := Lib.hid hM
  obtain ⟨R, hR⟩ : ∃ R, R = decide (l = m) := ⟨_, rfl⟩
  rw [← hR]
  have HRES := Lib.hid hR
  unfold maxLen at hm hm2
  clear hrow hrow2 hL hM hR
  by_cases hlen : L = M
  · subst hlen
    go_enter Try.func68, Try.ntmps68
    go_wp2_with fail
    go_loopw [5, 13] (fun _ i wr => ∃ k n : Nat, k ≤ L ∧ i = .int .i64 k ∧ wr = w.drewN n ∧ Hid (l.take k = m.take k)) (fun _ i _ => L - (intOf i).toNat)
    case atStart => exact ⟨0, 0, by omega, rfl, rfl, Lib.hid rfl⟩
    case round =>
      obtain ⟨k, n, hk, rfl, rfl, htk⟩ := hrel
      by_cases hlt : k < L
      · have d1 : decide ((k : Int) < (L : Int)) = true := decide_eq_true (by omega)
        have d1n : decide (k < L) = true := decide_eq_true hlt
        have hkl : k < l.length := by rw [← HL.out]; exact hlt
        have hkm : k < m.length := by rw [← HM.out]; exact hlt
        rcases HR.out with h0 | ⟨gb, ob, rfl, hcell⟩
        · rw [h0] at hkl; simp at hkl
        rcases HR2.out with h0 | ⟨gb2, ob2, rfl, hcell2⟩
        · rw [h0] at hkm; simp at hkm
        obtain ⟨u1, hu1, rfl⟩ := hcell k _ (List.getElem?_eq_getElem hkl)
        obtain ⟨u2, hu2, rfl⟩ := hcell2 k _ (List.getElem?_eq_getElem hkm)
        have hx : l[k]? = some l[k] := List.getElem?_eq_getElem hkl
        have hy : m[k]? = some m[k] := List.getElem?_eq_getElem hkm
        generalize l[k] = x at *
        generalize m[k] = y at *
        unfold U64 at hu1 hu2
        have hp : l.take (k + 1) = l.take k ++ [x] := by rw [List.take_add_one, hx]; rfl
        have hq : m.take (k + 1) = m.take k ++ [y] := by rw [List.take_add_one, hy]; rfl
        have HX := Lib.hid hx
        have HY := Lib.hid hy
        clear hcell hcell2 hx hy hkl hkm
        by_cases hxy : x = y
        · have e1 : ((x : Int) != (y : Int)) = false := by simp [hxy]
          have HT1 : Hid (l.take (k + 1) = m.take (k + 1)) := Lib.hid (by rw [hp, hq, htk.out, hxy])
          clear hxy hp hq htk
          go_wp2_with fail
          go_quiet (fail)
          go_wp2
          go_roundw
          case rel => exact ⟨k + 1, _, by omega, by go_num, rfl, HT1⟩
          case measure => simp [intOf]; omega
        · have e1 : ((x : Int) != (y : Int)) = true := by
            simp only [bne_iff_ne, ne_eq, Int.natCast_inj]
            exact hxy
          have hRf : R = false := by
            rw [HRES.out]
            refine decide_eq_false fun e => hxy ?_
            have h1 := HX.out
            rw [e, HY.out] at h1
            exact (Option.some.inj h1).symm
          subst hRf
          clear hxy hp hq htk
          go_wp2_with fail
          go_quiet (fail)
          go_wp2
          go_ret
          exact ⟨rfl, n + nq, by simp⟩
      · have d1 : decide ((k : Int) < (L : Int)) = false := decide_eq_false (by omega)
        have d1n : decide (k < L) = false := decide_eq_false hlt
        have hek : l = m := by
          have h1 := htk.out
          rwa [List.take_of_length_le (by rw [← HL.out]; omega), List.take_of_length_le (by rw [← HM.out]; omega)] at h1
        have hRt : R = true := by rw [HRES.out]; exact decide_eq_true hek
        subst hRt
        clear hek htk
        go_wp2_with fail
        go_ret
        exact ⟨rfl, _, rfl⟩
  · have q1 : ((L : Int) == (M : Int)) = false := beq_false_of_ne (by omega)
    have q2 : ((L : Int) != (M : Int)) = true := by rw [bne, q1]; rfl
    have q3 : ¬ (L : Int) = (M : Int) := by omega
    have q4 : decide ((L : Int) = (M : Int)) = false := decide_eq_false (by omega)
    have q5 : (L == M) = false := beq_false_of_ne hlen
    have q6 : (L != M) = true := by rw [bne, q5]; rfl
    have hRf : R = false := by
      rw [HRES.out]
      exact decide_eq_false fun e => hlen (by rw [HL.out, HM.out, e])
    subst hRf
    go_enter Try.func68, Try.ntmps68
    go_wp2_with fail
    go_ret
    exact ⟨rfl, 0, rfl⟩

theorem str_toList_inj {y s : ByteArray} (h : y.toList = s.toList) : y = s := by
  rw [ByteArray.toList_eq, ByteArray.toList_eq] at h
  cases y; cases s
  simp at h
  rw [h]
theorem str_eq_beq {y s : ByteArray} (h : y = s) : (y.toList == s.toList) = true := by subst h; simp
theorem str_ne_beq {y s : ByteArray} (h : y ≠ s) : (y.toList == s.toList) = false := beq_false_of_ne fun e => h (str_toList_inj e)
theorem str_ne_dec {y s : ByteArray} (h : y ≠ s) : decide (y.toList = s.toList) = false := decide_eq_false fun e => h (str_toList_inj e)

set_option maxRecDepth 10000 in
set_option maxHeartbeats 3200000 in
theorem arequal_any (v u : Value) (m n : Nd) (w : World) (hv : NdAt w v m) (hu : NdAt w u n) :
    Calls Try.prog 47 #[v, u] w fun e w' => e = .returned (.bool (ndSame m n)) ∧ Below w.heap.size w w' := by
  obtain ⟨kv, rfl, hk, -⟩ := hv
  obtain ⟨ku, rfl, hk2, -⟩ := hu
  obtain ⟨a, c, rfl⟩ := hk.slice
  obtain ⟨a2, c2, rfl⟩ := hk2.slice
  obtain ⟨R, hR⟩ : ∃ R, R = ndSame m n := ⟨_, rfl⟩
  rw [← hR]
  have HRES := Lib.hid hR
  have HK := Lib.hid hk
  have HK2 := Lib.hid hk2
  obtain ⟨L, hL⟩ : ∃ L, L = m.kids.length := ⟨_, rfl⟩
  obtain ⟨M, hM⟩ : ∃ L, L = n.kids.length := ⟨_, rfl⟩
  unfold NdVal
  rw [← hL] at HK ⊢
  rw [← hM] at HK2 ⊢
  clear hk hk2 hR hL hM
  go_enter Try.func47, Try.ntmps47
  go_upto_region 1 with fail
  have hb0 := bal (bal (bre w) (.cells #[.int .u8 m.kind, .string m.name, .int .i64 m.num, .int .u8 m.typ, .int .u64 m.ref, .slice a L c] 29)) (.cells #[.int .u8 n.kind, .string n.name, .int .i64 n.num, .int .u8 n.typ, .int .u64 n.ref, .slice a2 M c2] 29)
  obtain ⟨hr1, hr2⟩ := two_new w (.cells #[.int .u8 m.kind, .string m.name, .int .i64 m.num, .int .u8 m.typ, .int .u64 m.ref, .slice a L c] 29) (.cells #[.int .u8 n.kind, .string n.name, .int .i64 n.num, .int .u8 n.typ, .int .u64 n.ref, .slice a2 M c2] 29)
  generalize (w.alloc (.cells #[.int .u8 m.kind, .string m.name, .int .i64 m.num, .int .u8 m.typ, .int .u64 m.ref, .slice a L c] 29)).alloc (.cells #[.int .u8 n.kind, .string n.name, .int .i64 n.num, .int .u8 n.typ, .int .u64 n.ref, .slice a2 M c2] 29) = W at *
  obtain ⟨n1, hn1⟩ : ∃ n, n = w.heap.size := ⟨_, rfl⟩
  rw [← hn1] at hr1 hr2 ⊢
  obtain ⟨n2, hn2⟩ : ∃ n, n = n1 + 1 := ⟨_, rfl⟩
  rw [← hn2] at hr2
  try rw [← hn2]
  have hR1 : Row6 W n1 m (.slice a L c) := hr1
  have hR2 : Row6 W n2 n (.slice a2 M c2) := hr2
  have p0 := hR1.c0
  have p1 := hR1.c1
  have p2 := hR1.c2
  have p3 := hR1.c3
  have p4 := hR1.c4
  have p5 := hR1.c5
  have r0 := hR2.c0
  have r1 := hR2.c1
  have r2 := hR2.c2
  have r3 := hR2.c3
  have r4 := hR2.c4
  have r5 := hR2.c5
  have HB := Lib.hid hb0
  clear hb0 hr1 hr2 hR1 hR2 hn1 hn2
  by_cases h0 : m.kind = n.kind
  · have s0 : ((m.kind : Int) == (n.kind : Int)) = true := beq_iff_eq.2 (by omega)
    by_cases h1 : m.name = n.name
    · have s1 : (m.name.toList == n.name.toList) = true := str_eq_beq h1
      by_cases h2 : m.num = n.num
      · have s2 : (m.num == n.num) = true := beq_iff_eq.2 h2
        by_cases h3 : m.typ = n.typ
        · have s3 : ((m.typ : Int) == (n.typ : Int)) = true := beq_iff_eq.2 (by omega)
          by_cases h4 : m.ref = n.ref
          · have s4 : ((m.ref : Int) == (n.ref : Int)) = true := beq_iff_eq.2 (by omega)
            have hfin : ndSame m n = decide (m.kids = n.kids) := by unfold ndSame; rw [decide_eq_true h0, decide_eq_true h1, decide_eq_true h2, decide_eq_true h3, decide_eq_true h4]; rfl
            have HF := Lib.hid hfin
            have HH := Lib.hid (And.intro h0 (And.intro h1 (And.intro h2 (And.intro h3 h4))))
            clear hfin h0 h1 h2 h3 h4
            go_wp2_with fail
            refine (idequal_any _ _ m.kids n.kids W (HK.out.below HB.out) (HK2.out.below HB.out)).mono ?_
            rintro e W2 ⟨rfl, nq, rfl⟩
            have hRt : R = decide (m.kids = n.kids) := by rw [HRES.out, HF.out]
            have HRT := Lib.hid hRt
            clear hRt
            rw [← HRT.out]
            go_wp2_with fail
            go_ret
            exact ⟨rfl, bdn HB.out nq⟩
          · have s4 : ((m.ref : Int) == (n.ref : Int)) = false := beq_false_of_ne (by omega)
            have t4 : decide ((m.ref : Int) = (n.ref : Int)) = false := decide_eq_false (by omega)
            have hRf : R = false := by rw [HRES.out]; unfold ndSame; simp [h4]
            subst hRf
            go_wp2_with fail
            go_ret
            exact ⟨rfl, HB.out⟩
        · have s3 : ((m.typ : Int) == (n.typ : Int)) = false := beq_false_of_ne (by omega)
          have t3 : decide ((m.typ : Int) = (n.typ : Int)) = false := decide_eq_false (by omega)
          have hRf : R = false := by rw [HRES.out]; unfold ndSame; simp [h3]
          subst hRf
          go_wp2_with fail
          go_ret
          exact ⟨rfl, HB.out⟩
      · have s2 : (m.num == n.num) = false := beq_false_of_ne h2
        have t2 : decide (m.num = n.num) = false := decide_eq_false h2
        have hRf : R = false := by rw [HRES.out]; unfold ndSame; simp [h2]
        subst hRf
        go_wp2_with fail
        go_ret
        exact ⟨rfl, HB.out⟩
    · have s1 : (m.name.toList == n.name.toList) = false := str_ne_beq h1
      have t1 : decide (m.name.toList = n.name.toList) = false := str_ne_dec h1
      have hRf : R = false := by rw [HRES.out]; unfold ndSame; simp [h1]
      subst hRf
      go_wp2_with fail
      go_ret
      exact ⟨rfl, HB.out⟩
  · have s0 : ((m.kind : Int) == (n.kind : Int)) = false := beq_false_of_ne (by omega)
    have t0 : decide ((m.kind : Int) = (n.kind : Int)) = false := decide_eq_false (by omega)
    have hRf : R = false := by rw [HRES.out]; unfold ndSame; simp [h0]
    subst hRf
    go_wp2_with fail
    go_ret
    exact ⟨rfl, HB.out⟩
end Go.Proofs.Ytnbncjebmlicgaa
/- Walk: Same of arenas. -/
namespace Go.Proofs.Ytnbncjebmlicgaa
open Go.RowKit

/-- node for node -/
def hitA (l : List (Nat × Nd)) (p : Nat × Nd) : Bool := match getA l p.1 with | some n => ndSame p.2 n | none => false
def eqA (l m : List (Nat × Nd)) : Bool := decide (l.length = m.length) && l.all (hitA m)
theorem eqA_iff {l m : List (Nat × Nd)} (hl : AscA l) (hm : AscA m) : eqA l m = true ↔ l = m := by
  constructor
  · intro h
    unfold eqA at h
    rw [Bool.and_eq_true, decide_eq_true_iff, List.all_eq_true] at h
    obtain ⟨hlen, hall⟩ := h
    have h1 := hl.1
    clear hl
    induction l generalizing m with
    | nil => exact (List.length_eq_zero_iff.1 hlen.symm).symm
    | cons p r ih =>
      have hp := List.pairwise_cons.1 h1
      have hit : ∀ q ∈ p :: r, q ∈ m := fun q hq => by
        have := hall q hq
        unfold hitA at this
        cases hg : getA m q.1 with
        | none => rw [hg] at this; cases this
        | some n =>
          rw [hg] at this
          have e := (ndSame_iff _ _).1 this
          have := getA_mem hg
          rw [← e] at this
          exact this
      cases m with
      | nil => cases hlen
      | cons y s =>
        have hy := List.pairwise_cons.1 hm.1
        have hpy : p = y := by
          rcases List.mem_cons.1 (hit p (List.mem_cons_self ..)) with h | h
          · exact h
          · -- then y is none of the first list's
            have hys := hy.1 p h
            have hsub : ∀ q ∈ p :: r, q ∈ s := fun q hq => by
              rcases List.mem_cons.1 (hit q hq) with h2 | h2
              · subst h2
                rcases List.mem_cons.1 hq with h3 | h3
                · rw [h3] at hys; omega
                · have := hp.1 _ h3; omega
              · exact h2
            have hasc : AscA (p :: r) := ⟨h1, fun q hq => hm.2 q (hit q hq)⟩
            have hs : AscA s := ⟨hy.2, fun q hq => hm.2 q (List.mem_cons_of_mem _ hq)⟩
            have := sub_len hasc hs (fun q hq => by rw [getA_of_mem hs (hsub q hq)]; rfl)
            simp at hlen this
            omega
        subst hpy
        have hs : AscA s := ⟨hy.2, fun q hq => hm.2 q (List.mem_cons_of_mem _ hq)⟩
        rw [ih hs (by simpa using hlen) (fun q hq => ?_) hp.2]
        have hq2 := hit q (List.mem_cons_of_mem _ hq)
        have hqs : q ∈ s := by
          rcases List.mem_cons.1 hq2 with h | h
          · have := hp.1 q hq; rw [h] at this; omega
          · exact h
        unfold hitA
        rw [getA_of_mem hs hqs]
        exact (ndSame_iff _ _).2 rfl
  · rintro rfl
    unfold eqA
    rw [Bool.and_eq_true]
    refine ⟨decide_eq_true rfl, List.all_eq_true.2 fun p hp => ?_⟩
    unfold hitA
    rw [getA_of_mem hl hp]
    exact (ndSame_iff _ _).2 rfl

set_option maxRecDepth 20000 in
set_option maxHeartbeats 3200000 in
theorem areqf_any (g b g2 b2 : Nat) (l m : List (Nat × Nd)) (w : World) (h : ArAt w g b l) (h2 : ArAt w g2 b2 m) :
    Calls Try.prog 46 #[.map (some b), .map (some b2), .func (.func 47) #[] #[]] w fun e w' => e = .returned (.bool (eqA l m)) ∧ Below w.heap.size w w' := by
  obtain ⟨R, hR⟩ : ∃ R, R = eqA l m := ⟨_, rfl⟩
  rw [← hR]
  have HRES := Lib.hid hR
  have hlen := fun ty => h.len ty
  have hlen2 := fun ty => h2.len ty
  obtain ⟨L, hL⟩ : ∃ L, L = l.length := ⟨_, rfl⟩
  obtain ⟨M, hM⟩ : ∃ L, L = m.length := ⟨_, rfl⟩
  rw [← hL] at hlen
  rw [← hM] at hlen2
  have HL := Lib.hid hL
  have HM := Lib.hid hM
  obtain ⟨w0, vl, hrun, h0, hb0, hs0⟩ := h.range
  obtain ⟨r, hr⟩ : ∃ r, r = w.heap.size := ⟨_, rfl⟩
  rw [← hr] at hrun h0
  have H0 := Lib.hid h0
  have HB0 := Lib.hid hb0
  have H20 := Lib.hid (h2.below hb0)
  have HRL : Hid (w.heap.size ≤ r) := Lib.hid (by omega)
  clear hR h h2 hL hM h0 hb0 hs0 hr
  by_cases hlm : L = M
  · subst hlm
    go_enter Try.func46, Try.ntmps46
    go_wp2_with fail
    clear hrun hlen hlen2
    go_loopw [7, 8, 9, 10] (fun _ _ _ _ wr => ∃ left, Hid (ArRng wr g b r l vl left) ∧ Hid (ArAt wr g2 b2 m) ∧ Hid (Below w.heap.size w wr) ∧ Hid (∀ p ∈ l, left p.1 = false → hitA m p = true)) (fun _ _ _ _ wr => wr.rangeLeft b r)
    case atStart => exact ⟨fun _ => true, H0, H20, HB0, Lib.hid fun p _ h => by cases h⟩
    case round =>
      clear H0 HB0 H20
      obtain ⟨left, har, ha2, hbl, hdone⟩ := hrel
      rcases har.out.next with ⟨hend, hnx⟩ | ⟨p, kv, w1, hp, hl, hnx, hk, ok, h64, har1, hlt, ho, hs, hen⟩
      · have hRt : R = true := by
          rw [HRES.out]
          unfold eqA
          rw [Bool.and_eq_true]
          exact ⟨decide_eq_true (by rw [← HL.out, ← HM.out]), List.all_eq_true.2 fun p hp => hdone.out p hp (hend p hp)⟩
        subst hRt
        clear hend hdone har ha2
        go_wp2_with fail
        go_ret
        exact ⟨rfl, hbl.out⟩
      · have hbw : Below w.heap.size w w1 := hbl.out.trans (ho.below w.heap.size hbl.out.size fun i hi e => by have := HRL.out; omega)
        have ha21 : ArAt w1 g2 b2 m := ha2.out.only ho (fun e => by
            obtain ⟨_, _, _, _, hit⟩ := har.out.rng.iter
            have hbx := ha2.out.box
            subst e; rw [hbx] at hit; cases hit) (fun e => by
            obtain ⟨_, _, _, _, hit⟩ := har.out.rng.iter
            obtain ⟨vl2, g1, -⟩ := ha2.out.ex
            obtain ⟨_, _, hmm⟩ := g1.isMap
            subst e; rw [hmm] at hit; cases hit) har.out.notId
        have HAR1 := Lib.hid har1
        have HA21 := Lib.hid ha21
        have HB1 := Lib.hid hbw
        have HLT := Lib.hid hlt
        obtain ⟨ka9, kc9, rfl⟩ := hk.slice
        obtain ⟨pk, n9⟩ := p
        have HK9 := Lib.hid hk
        have HOK9 := Lib.hid ok
        have HDONE : Hid (hitA m (pk, n9) = true → ∀ p ∈ l, (left p.1 && !(p.1 == pk)) = false → hitA m p = true) := Lib.hid fun hr p hp' hlf => by
          cases hleft : left p.1 with
          | false => exact hdone.out p hp' hleft
          | true =>
            rw [hleft] at hlf
            have he : p.1 = pk := by simpa using hlf
            rw [asc_key HAR1.out.ar.asc hp' hp he]
            exact hr
        have HBAD : Hid (hitA m (pk, n9) = false → R = false) := Lib.hid fun hr => by
          rw [HRES.out]
          unfold eqA
          have : l.all (hitA m) = false := List.all_eq_false.2 ⟨_, hp, by rw [hr]; decide⟩
          rw [this, Bool.and_false]
        have h64' : pk < 18446744073709551616 := h64
        have HPK := Lib.hid h64'
        obtain ⟨KL9, hKL9⟩ : ∃ q, q = n9.kids.length := ⟨_, rfl⟩
        unfold NdVal at hnx hen
        replace hnx : _ = Result.ok (Value.tuple #[.bool true, .int .u64 (pk : Int), .agg #[.int .u8 n9.kind, .string n9.name, .int .i64 n9.num, .int .u8 n9.typ, .int .u64 n9.ref, .slice ka9 n9.kids.length kc9]]) w1 := hnx
        replace hen : _ = Result.ok (Value.tuple #[.int .u64 (pk : Int), .agg #[.int .u8 n9.kind, .string n9.name, .int .i64 n9.num, .int .u8 n9.typ, .int .u64 n9.ref, .slice ka9 n9.kids.length kc9]]) w1 := hen
        rw [← hKL9] at hnx hen HK9
        clear har1 ha21 hbw hlt hdone har ha2 hbl hp hl ho hs hk ok h64 h64' hKL9
        go_upto_region 6 with fail
        have hbq := bal (bre w1) (.cells #[.int .u8 n9.kind, .string n9.name, .int .i64 n9.num, .int .u8 n9.typ, .int .u64 n9.ref, .slice ka9 KL9 kc9] 29)
        have hrq := heap_alloc_new w1 (.cells #[.int .u8 n9.kind, .string n9.name, .int .i64 n9.num, .int .u8 n9.typ, .int .u64 n9.ref, .slice ka9 KL9 kc9] 29)
        generalize w1.alloc (.cells #[.int .u8 n9.kind, .string n9.name, .int .i64 n9.num, .int .u8 n9.typ, .int .u64 n9.ref, .slice ka9 KL9 kc9] 29) = wq at *
        obtain ⟨n8, hn8⟩ : ∃ q, q = w1.heap.size := ⟨_, rfl⟩
        rw [← hn8] at hrq ⊢
        have hRq : Row6 wq n8 n9 (.slice ka9 KL9 kc9) := hrq
        have HRQ := Lib.hid hRq
        have HAQ := Lib.hid (HA21.out.below hbq)
        have HARQ := Lib.hid (HAR1.out.below hbq)
        have HBQ := Lib.hid (HB1.out.trans (hbq.mono HB1.out.size))
        have HKQ := Lib.hid (HK9.out.below hbq)
        obtain ⟨kv5, r5, -, hk5, ok5⟩ := HAQ.out.look pk HPK.out
        obtain ⟨ka5, kc5, rfl⟩ := hk5.slice
        obtain ⟨n5, hn5⟩ : ∃ q, q = atN m pk := ⟨_, rfl⟩
        obtain ⟨ro, hro⟩ : ∃ q, q = (getA m pk).isSome := ⟨_, rfl⟩
        rw [← hn5, ← hro] at r5
        rw [← hn5] at hk5 ok5
        obtain ⟨KL5, hKL5⟩ : ∃ q, q = n5.kids.length := ⟨_, rfl⟩
        rw [← hKL5] at r5 hk5
        have HRO := Lib.hid hro
        have HN5 := Lib.hid hn5
        have HK5 := Lib.hid hk5
        have HOK5 := Lib.hid ok5
        unfold NdVal at r5
        clear hbq hrq hRq hn8 hnx hen HAR1 HA21 HB1 HK9 hn5 hro hk5 ok5 hKL5
        go_upto_region 7 with fail
        have hbz := bal (bre wq) (.cells #[.int .u8 n5.kind, .string n5.name, .int .i64 n5.num, .int .u8 n5.typ, .int .u64 n5.ref, .slice ka5 KL5 kc5] 29)
        have hrz := heap_alloc_new wq (.cells #[.int .u8 n5.kind, .string n5.name, .int .i64 n5.num, .int .u8 n5.typ, .int .u64 n5.ref, .slice ka5 KL5 kc5] 29)
        generalize wq.alloc (.cells #[.int .u8 n5.kind, .string n5.name, .int .i64 n5.num, .int .u8 n5.typ, .int .u64 n5.ref, .slice ka5 KL5 kc5] 29) = wz at *
        obtain ⟨n9', hn9⟩ : ∃ q, q = wq.heap.size := ⟨_, rfl⟩
        rw [← hn9] at hrz ⊢
        have hRz : Row6 wz n9' n5 (.slice ka5 KL5 kc5) := hrz
        have hRq := HRQ.out.below hbz
        have HAZ := Lib.hid (HAQ.out.below hbz)
        have HARZ := HARQ.out.1.below hbz
        have HLTZ : Hid (wz.rangeLeft b r < _) := Lib.hid (by rw [HARZ.2, HARQ.out.2]; exact HLT.out)
        have HARZ1 := Lib.hid HARZ.1
        have HBZ := Lib.hid (HBQ.out.trans (hbz.mono HBQ.out.size))
        have HKZ := Lib.hid (HKQ.out.below hbz)
        have HK5Z := Lib.hid (HK5.out.below hbz)
        cases ro with
        | false =>
          have hR := HBAD.out (by
            unfold hitA
            show (match getA m pk with | some n => ndSame n9 n | none => false) = false
            have := HRO.out
            cases hg : getA m pk with
            | none => rfl
            | some x => rw [hg] at this; cases this)
          subst hR
          clear hbz hrz hRz hRq HARZ hn9 r5
          go_wp2_with fail
          go_ret
          exact ⟨rfl, HBZ.out⟩
        | true =>
          have hgm : getA m pk = some n5 := by
            have h1 := HRO.out
            have h2 := HN5.out
            unfold atN at h2
            cases hg : getA m pk with
            | none => rw [hg] at h1; cases h1
            | some x => rw [hg] at h2; rw [h2]; rfl
          have hhit : hitA m (pk, n9) = ndSame n9 n5 := by
            show (match getA m pk with | some n => ndSame n9 n | none => false) = _
            rw [hgm]
          have p0 := hRq.c0
          have p1 := hRq.c1
          have p2 := hRq.c2
          have p3 := hRq.c3
          have p4 := hRq.c4
          have p5 := hRq.c5
          have r0 := hRz.c0
          have r1 := hRz.c1
          have r2 := hRz.c2
          have r3 := hRz.c3
          have r4 := hRz.c4
          have r6 := hRz.c5
          have HHIT := Lib.hid hhit
          clear hbz hrz hRz hRq HARZ hn9 r5 hgm hhit
          go_wp2_with fail
          refine (arequal_any _ _ n9 n5 wz ⟨_, rfl, HKZ.out.ids, HOK9.out⟩ ⟨_, rfl, HK5Z.out.ids, HOK5.out⟩).mono ?_
          rintro e wy ⟨rfl, hby⟩
          have HARY := HARZ1.out.below hby
          have HLY : Hid (wy.rangeLeft b r < _) := Lib.hid (by rw [HARY.2]; exact HLTZ.out)
          have HARY1 := Lib.hid HARY.1
          have HAY := Lib.hid (HAZ.out.below hby)
          have HBY := Lib.hid (HBZ.out.trans (hby.mono HBZ.out.size))
          clear HARY hby p0 p1 p2 p3 p4 p5 r0 r1 r2 r3 r4 r6
          cases hsm : ndSame n9 n5 with
          | true =>
            have HDN := Lib.hid (HDONE.out (HHIT.out.trans hsm))
            clear hsm
            go_wp2_with fail
            go_roundw
            case rel => exact ⟨_, HARY1, HAY, HBY, HDN⟩
            case measure => exact HLY.out
          | false =>
            have hR := HBAD.out (HHIT.out.trans hsm)
            subst hR
            clear hsm
            go_wp2_with fail
            go_ret
            exact ⟨rfl, HBY.out⟩
  · have q1 : ((L : Int) == (M : Int)) = false := beq_false_of_ne (by omega)
    have q2 : ((L : Int) != (M : Int)) = true := by rw [bne, q1]; rfl
    have q3 : ¬ (L : Int) = (M : Int) := by omega
    have hRf : R = false := by
      rw [HRES.out]
      unfold eqA
      rw [decide_eq_false (by rw [← HL.out, ← HM.out]; exact hlm)]
      rfl
    subst hRf
    go_enter Try.func46, Try.ntmps46
    go_wp2_with fail
    go_ret
    exact ⟨rfl, bre _⟩

set_option maxRecDepth 10000 in
theorem arsame_nil (w : World) : Calls Try.prog 28 #[.pointer none, .pointer none] w fun e w' => e = .returned (.bool true) ∧ w' = w := by
  go_enter Try.func28, Try.ntmps28
  go_wp2
  go_ret
  exact ⟨rfl, rfl⟩
set_option maxRecDepth 10000 in
theorem arsame_half (g : Nat) (w : World) : Calls Try.prog 28 #[.pointer (some ⟨g, 0, none⟩), .pointer none] w fun e w' => e = .returned (.bool false) ∧ w' = w := by
  go_enter Try.func28, Try.ntmps28
  go_wp2
  go_ret
  exact ⟨rfl, rfl⟩
end Go.Proofs.Ytnbncjebmlicgaa
/- Walk: Same of two arenas; the law's awake. -/
namespace Go.Proofs.Ytnbncjebmlicgaa
open Go.RowKit

set_option maxRecDepth 10000 in
set_option maxHeartbeats 800000 in
theorem arsame_any (g b g2 b2 : Nat) (l m : List (Nat × Nd)) (w : World) (h : ArAt w g b l) (h2 : ArAt w g2 b2 m) :
    Calls Try.prog 28 #[.pointer (some ⟨g, 0, none⟩), .pointer (some ⟨g2, 0, none⟩)] w fun e w' => e = .returned (.bool (eqA l m)) ∧ Below w.heap.size w w' := by
  obtain ⟨R, hR⟩ : ∃ R, R = eqA l m := ⟨_, rfl⟩
  rw [← hR]
  have HR := Lib.hid hR
  have H := Lib.hid h
  have H2 := Lib.hid h2
  clear hR h h2
  go_enter Try.func28, Try.ntmps28
  go_upto_region 3 with fail
  refine region_anyZ (z := 9) (S := fun w' => (w'.cell? ⟨g, 0, none⟩ = some (.map (some b)) ∧ w'.cell? ⟨g2, 0, none⟩ = some (.map (some b2)))) (by kernel_rfl) ?_
  refine anyZ_begin (fun hcl0 => ?_)
  refine anyZ_held (by exact ⟨H.out.c0, H2.out.c0⟩) (fun hHeld => ?_)
  -- 0: Op.move (Operand.tmp 0)
  refine' anyZ_pure (i := 0) (v := _) rfl (by rfl) (by kernel_rfl) (by kernel_rfl) (by kernel_rfl) hcl0 (fun _ _ _ h => h) (Or.inl ⟨by rfl, fun w _ => ?hy1⟩) (fun _ => hHeld) (fun hcl1 => ?ry1)
  case hy1 => (simp only [List.getElem_toArray, List.getElem_cons_zero]; first | (go_simp; with_reducible rfl) | (go_simp; done) | rfl)
  simp only [List.getElem_toArray, List.getElem_cons_zero, Act.put, List.setIfInBounds_toArray, List.set_cons_zero, List.set_cons_succ]
  -- 1: Op.nilCheck (Operand.tmp 17)
  refine' anyZ_pure (i := 1) (v := _) rfl (by rfl) (by kernel_rfl) (by kernel_rfl) (by kernel_rfl) hcl1 (fun _ _ _ h => h) (Or.inl ⟨by rfl, fun w _ => ?hy2⟩) (fun _ => hHeld) (fun hcl2 => ?ry2)
  case hy2 => (simp only [List.getElem_toArray, List.getElem_cons_succ, List.getElem_cons_zero]; first | (go_simp; with_reducible rfl) | (go_simp; done) | rfl)
  simp only [List.getElem_toArray, List.getElem_cons_succ, List.getElem_cons_zero, Act.put, List.setIfInBounds_toArray, List.set_cons_zero, List.set_cons_succ]
  -- 2: Op.fieldAddr 70 (Operand.tmp 18) 0
  refine' anyZ_pure (i := 2) (v := _) rfl (by rfl) (by kernel_rfl) (by kernel_rfl) (by kernel_rfl) hcl2 (fun _ _ _ h => h) (Or.inl ⟨by rfl, fun w _ => ?hy3⟩) (fun _ => hHeld) (fun hcl3 => ?ry3)
  case hy3 => (simp only [List.getElem_toArray, List.getElem_cons_succ, List.getElem_cons_zero]; first | (go_simp; with_reducible rfl) | (go_simp; done) | rfl)
  simp only [List.getElem_toArray, List.getElem_cons_succ, List.getElem_cons_zero, Act.put, List.setIfInBounds_toArray, List.set_cons_zero, List.set_cons_succ]
  -- 3: Op.load 68 (Operand.tmp 19)
  refine' anyZ_take (i := 3) (v := _) rfl (by rfl) (by kernel_rfl) (by kernel_rfl) (by kernel_rfl) hcl3 6 (by kernel_rfl) (by kernel_rfl) (fun _ _ _ h => h) (Or.inl ⟨by rfl, fun w hSw => ?hy4⟩) hHeld (fun hcl4 => ?ry4)
  case hy4 => (simp only [List.getElem_toArray, List.getElem_cons_succ, List.getElem_cons_zero]; obtain ⟨hS1, hS2⟩ := hSw; first | (go_simp; with_reducible rfl) | (go_simp; done) | rfl)
  simp only [List.getElem_toArray, List.getElem_cons_succ, List.getElem_cons_zero, Act.put, List.setIfInBounds_toArray, List.set_cons_zero, List.set_cons_succ]
  -- 4: Op.move (Operand.tmp 1)
  refine' anyZ_pure (i := 4) (v := _) rfl (by rfl) (by kernel_rfl) (by kernel_rfl) (by kernel_rfl) hcl4 (fun _ _ _ h => h) (Or.inl ⟨by rfl, fun w _ => ?hy5⟩) (fun _ => hHeld) (fun hcl5 => ?ry5)
  case hy5 => (simp only [List.getElem_toArray, List.getElem_cons_succ, List.getElem_cons_zero]; first | (go_simp; with_reducible rfl) | (go_simp; done) | rfl)
  simp only [List.getElem_toArray, List.getElem_cons_succ, List.getElem_cons_zero, Act.put, List.setIfInBounds_toArray, List.set_cons_zero, List.set_cons_succ]
  -- 5: Op.nilCheck (Operand.tmp 21)
  refine' anyZ_pure (i := 5) (v := _) rfl (by rfl) (by kernel_rfl) (by kernel_rfl) (by kernel_rfl) hcl5 (fun _ _ _ h => h) (Or.inl ⟨by rfl, fun w _ => ?hy6⟩) (fun _ => hHeld) (fun hcl6 => ?ry6)
  case hy6 => (simp only [List.getElem_toArray, List.getElem_cons_succ, List.getElem_cons_zero]; first | (go_simp; with_reducible rfl) | (go_simp; done) | rfl)
  simp only [List.getElem_toArray, List.getElem_cons_succ, List.getElem_cons_zero, Act.put, List.setIfInBounds_toArray, List.set_cons_zero, List.set_cons_succ]
  -- 6: Op.fieldAddr 70 (Operand.tmp 22) 0
  refine' anyZ_pure (i := 6) (v := _) rfl (by rfl) (by kernel_rfl) (by kernel_rfl) (by kernel_rfl) hcl6 (fun _ _ _ h => h) (Or.inl ⟨by rfl, fun w _ => ?hy7⟩) (fun _ => hHeld) (fun hcl7 => ?ry7)
  case hy7 => (simp only [List.getElem_toArray, List.getElem_cons_succ, List.getElem_cons_zero]; first | (go_simp; with_reducible rfl) | (go_simp; done) | rfl)
  simp only [List.getElem_toArray, List.getElem_cons_succ, List.getElem_cons_zero, Act.put, List.setIfInBounds_toArray, List.set_cons_zero, List.set_cons_succ]
  -- 7: Op.load 68 (Operand.tmp 23)
  refine' anyZ_take (i := 7) (v := _) rfl (by rfl) (by kernel_rfl) (by kernel_rfl) (by kernel_rfl) hcl7 6 (by kernel_rfl) (by kernel_rfl) (fun _ _ _ h => h) (Or.inl ⟨by rfl, fun w hSw => ?hy8⟩) hHeld (fun hcl8 => ?ry8)
  case hy8 => (simp only [List.getElem_toArray, List.getElem_cons_succ, List.getElem_cons_zero]; obtain ⟨hS1, hS2⟩ := hSw; first | (go_simp; with_reducible rfl) | (go_simp; done) | rfl)
  simp only [List.getElem_toArray, List.getElem_cons_succ, List.getElem_cons_zero, Act.put, List.setIfInBounds_toArray, List.set_cons_zero, List.set_cons_succ]
  -- 8: Op.call { callee := Callee.value (Operand.func 46), args := 
  refine anyZ_one (i := 8) hcl8 (by kernel_rfl) (by simp only [List.getElem?_toArray, List.getElem?_cons_succ, List.getElem?_cons_zero]; rfl) (by rfl) (fun hcl9 K hK => ?_)
  go_simp
  refine (areqf_any g b g2 b2 l m _ (H.out.below (bdr (bre w))) (H2.out.below (bdr (bre w)))).mono ?_
  rintro e w5 ⟨rfl, hb5⟩
  rw [← HR.out]
  have HB5 := Lib.hid (btr (bdr (bre w)) hb5)
  clear hb5
  refine hK _ _ (fun _ => ?_) ?_
  · exact ⟨(H.out.below HB5.out).c0, (H2.out.below HB5.out).c0⟩
  clear hK K hHeld
  try simp only [Act.put, List.setIfInBounds_toArray, List.set_cons_zero, List.set_cons_succ]
  refine anyZ_chain_at (by kernel_rfl) ?_
  simp only [List.drop_succ_cons, List.drop_zero]
  go_wp2_with fail
  go_ret
  exact ⟨rfl, HB5.out⟩

def ndMod : Nd := ⟨2, ⟨#[]⟩, 0, 0, 0, []⟩
theorem ndMod_ok : ndMod.Ok := ⟨by decide, by decide, by decide, by decide, Nat.zero_le _, Nat.zero_le _, fun x hx => by cases hx⟩

set_option maxRecDepth 10000 in
set_option maxHeartbeats 1600000 in
theorem awake_any (w : World) : Calls Try.prog 8 #[] w fun e w' => e = .returned (.bool true) ∧ Below w.heap.size w w' := by
  go_enter Try.func8, Try.ntmps8
  go_wp2_with fail
  refine (arnew_any w).mono ?_
  rintro e w1 ⟨g, b, rfl, h1, hg1, hb1', hb1⟩
  have H1 := Lib.hid h1
  have HG := Lib.hid (And.intro hg1 hb1')
  have HB1 := Lib.hid hb1
  clear h1 hg1 hb1' hb1
  go_wp2_with fail
  refine (arroot_any g w1).mono ?_
  rintro e w0 ⟨rfl, hw⟩
  have hw' := hw.symm
  subst hw'
  clear hw
  go_wp2_with fail
  refine (artree_any g b _ w1 H1.out).mono ?_
  rintro e w2 ⟨rfl, hb2⟩
  rw [show treeOf [(1, Nd.prog)] = true from by decide]
  have H2 := Lib.hid (H1.out.below hb2)
  have HB2 := Lib.hid (btr HB1.out hb2)
  clear hb2 H1 HB1
  go_wp2_with fail
  refine (arput_ok g b _ 2 _ ndMod w2 H2.out ⟨.slice none 0 0, rfl, (OwnIds.nil w2 0).ids, ndMod_ok⟩ (by decide) (by decide) (.inr (by decide))).mono ?_
  rintro e w3 ⟨rfl, h3, ho3⟩
  have HB3 : Hid (Below w.heap.size w w3) := Lib.hid (HB2.out.trans (ho3.below w.heap.size HB2.out.size fun i hi e => by have := HG.out.2; omega))
  have H3 := Lib.hid h3
  clear h3 ho3 H2 HB2
  go_wp2_with fail
  refine (artree_any g b _ w3 H3.out).mono ?_
  rintro e w4 ⟨rfl, hb4⟩
  rw [show treeOf (putA [(1, Nd.prog)] 2 ndMod) = false from by decide]
  have H4 := Lib.hid (H3.out.below hb4)
  have HB4 := Lib.hid (btr HB3.out hb4)
  clear hb4 H3 HB3
  go_wp2_with fail
  refine (arlen_any g b _ w4 H4.out).mono ?_
  rintro e w5 ⟨rfl, hw⟩
  have hw' := hw.symm
  subst hw'
  clear hw
  rw [show (putA [(1, Nd.prog)] 2 ndMod).length = 2 from by decide]
  go_wp2_with fail
  go_ret
  exact ⟨rfl, HB4.out⟩
end Go.Proofs.Ytnbncjebmlicgaa
/- Rows: nodes with their IDs, as slices; few: a node that isn't too great. -/
namespace Go.Proofs.Ytnbncjebmlicgaa
open Go.RowKit

/-- seven cells of a row -/
def rowC (p : Nat × Nd) (kv : Value) : List Value := [.int .u64 p.1, .int .u8 p.2.kind, .string p.2.name, .int .i64 p.2.num, .int .u8 p.2.typ, .int .u64 p.2.ref, kv]
theorem rowX : RowTy Try.prog 37 80 7 80 := RowTy.mk' (z := .agg #[.int .u64 0, .int .u8 0, .string ⟨#[]⟩, .int .i64 0, .int .u8 0, .int .u64 0, .slice none 0 0]) Try.underlying37 (by kernel_rfl) rfl (by omega)

/-- a node that came in: its kids may be many -/
structure Nd.Okw (n : Nd) : Prop where
  kind : n.kind < 256
  typ : n.typ < 256
  ref : n.ref < 18446744073709551616
  num : (Lit.int .i64 n.num).wf = true
  name : n.name.size ≤ maxLen
  ids : ∀ x ∈ n.kids, x < 18446744073709551616
/-- what comes in -/
def RowIn (w : World) (us : List Value) (p : Nat × Nd) : Prop := ∃ kv, us = rowC p kv ∧ Ids w kv p.2.kids ∧ p.2.Okw ∧ p.1 < 18446744073709551616
def RowsIn (w : World) (v : Value) (l : List (Nat × Nd)) : Prop := Recs 7 RowIn w v l
theorem RowsIn.below {w w' : World} {v : Value} {l : List (Nat × Nd)} (h : RowsIn w v l) (hb : Below w.heap.size w w') : RowsIn w' v l :=
  Recs.mono (by decide) h hb fun us a _ ⟨kv, h1, h2, h3⟩ => ⟨kv, h1, h2.below hb, h3⟩

/-- rows of the call's own -/
def rowsC (rs : List ((Nat × Nd) × Value)) : List Value := rs.flatMap fun q => rowC q.1 q.2
def RowsX (base : Nat) (w : World) (v : Value) (l : List (Nat × Nd)) : Prop :=
  ∃ rs : List ((Nat × Nd) × Value), rs.map (·.1) = l ∧ w.ownsRow base 80 7 v l.length (rowsC rs) ∧ ∀ q ∈ rs, OwnIds 0 w q.2 q.1.2.kids ∧ q.1.2.Ok

theorem rowsC_len (rs : List ((Nat × Nd) × Value)) : (rowsC rs).length = rs.length * 7 := by
  unfold rowsC
  induction rs with
  | nil => rfl
  | cons q r ih => rw [List.flatMap_cons, List.length_append, ih, List.length_cons]; show 7 + _ = _; omega
theorem rowsC_app (a c : List ((Nat × Nd) × Value)) : rowsC (a ++ c) = rowsC a ++ rowsC c := by unfold rowsC; rw [List.flatMap_append]
theorem rowsC_get (rs : List ((Nat × Nd) × Value)) (j : Nat) (q : (Nat × Nd) × Value) (hj : rs[j]? = some q) (i : Nat) (u : Value) (hi : (rowC q.1 q.2)[i]? = some u) : (rowsC rs)[j * 7 + i]? = some u := by
  induction rs generalizing j with
  | nil => cases hj
  | cons p r ih =>
    have hlen : (rowC p.1 p.2).length = 7 := rfl
    have e : rowsC (p :: r) = rowC p.1 p.2 ++ rowsC r := by unfold rowsC; rw [List.flatMap_cons]
    rw [e]
    cases j with
    | zero =>
      cases hj
      have : i < 7 := (List.getElem?_eq_some_iff.1 hi).1
      rw [List.getElem?_append_left (by rw [hlen]; omega), Nat.zero_mul, Nat.zero_add]
      exact hi
    | succ j =>
      rw [List.getElem?_append_right (by rw [hlen]; omega), hlen, show (j + 1) * 7 + i - 7 = j * 7 + i by omega]
      exact ih j hj
theorem own_kept7 {e : TypeId} {base n : Nat} {w w' : World} {v : Value} {xs : List Value} {S : Nat → Prop} (h : w.ownsRow base e 7 v n xs) (ho : Only w w' S) (hs : ∀ k, S k → ∀ cs fr, w.heap[k]? ≠ some (.cells cs e fr)) : w'.ownsRow base e 7 v n xs := by
  refine ⟨h.1, ?_⟩
  rcases h.2 with h2 | ⟨g, cap, cur, rfl, hb, hg, h3⟩
  · exact .inl h2
  · exact .inr ⟨g, cap, cur, rfl, hb, (ho.block g (Array.getElem?_eq_some_iff.1 hg).1 fun hS => hs g hS _ _ hg).trans hg, h3⟩
theorem RowsX.only {base : Nat} {w w' : World} {v : Value} {l : List (Nat × Nd)} {S : Nat → Prop} (h : RowsX base w v l) (ho : Only w w' S) (hs : ∀ k, S k → ∀ cs fr, w.heap[k]? ≠ some (.cells cs 26 fr)) (hs2 : ∀ k, S k → ∀ cs fr, w.heap[k]? ≠ some (.cells cs 80 fr)) : RowsX base w' v l := by
  obtain ⟨rs, h1, h2, h3⟩ := h
  exact ⟨rs, h1, own_kept7 h2 ho hs2, fun q hq => ⟨(h3 q hq).1.only ho hs, (h3 q hq).2⟩⟩
theorem RowsX.below {base : Nat} {w w' : World} {v : Value} {l : List (Nat × Nd)} (h : RowsX base w v l) (hb : Below w.heap.size w w') : RowsX base w' v l := h.only (Only.of_below hb fun _ => False) (fun _ h => h.elim) fun _ h => h.elim
theorem RowsX.base {base base' : Nat} {w : World} {v : Value} {l : List (Nat × Nd)} (h : RowsX base w v l) (hb : base' ≤ base) : RowsX base' w v l := by
  obtain ⟨rs, h1, h2, h3⟩ := h
  exact ⟨rs, h1, ownsRow_base h2 hb, h3⟩
theorem RowsX.slice {base : Nat} {w : World} {v : Value} {l : List (Nat × Nd)} (h : RowsX base w v l) : ∃ a c, v = .slice a l.length c := by
  obtain ⟨rs, -, h2, -⟩ := h
  obtain ⟨a, c, e, -⟩ := ownsRow_lies h2
  exact ⟨a, c, e⟩
theorem RowsX.nil (base : Nat) (w : World) : RowsX base w (.slice none 0 0) [] := ⟨[], rfl, World.ownsRow_nil _ _ _ _, fun _ hq => nomatch hq⟩
/-- a row's cells -/
theorem RowsX.cell {base : Nat} {w : World} {v : Value} {l : List (Nat × Nd)} (h : RowsX base w v l) (j : Nat) (p : Nat × Nd) (hj : l[j]? = some p) :
    ∃ g n c ka kc, v = .slice (some ⟨g, 0, none⟩) n c ∧ OwnIds 0 w (.slice ka p.2.kids.length kc) p.2.kids ∧ p.2.Ok ∧ w.cell? ⟨g, j * 7, none⟩ = some (.int .u64 p.1) ∧ w.cell? ⟨g, j * 7 + 1, none⟩ = some (.int .u8 p.2.kind) ∧ w.cell? ⟨g, j * 7 + 2, none⟩ = some (.string p.2.name) ∧
      w.cell? ⟨g, j * 7 + 3, none⟩ = some (.int .i64 p.2.num) ∧ w.cell? ⟨g, j * 7 + 4, none⟩ = some (.int .u8 p.2.typ) ∧ w.cell? ⟨g, j * 7 + 5, none⟩ = some (.int .u64 p.2.ref) ∧ w.cell? ⟨g, j * 7 + 6, none⟩ = some (.slice ka p.2.kids.length kc) := by
  obtain ⟨rs, h1, h2, h3⟩ := h
  have hq : ∃ q, rs[j]? = some q ∧ q.1 = p := by
    rw [← h1, List.getElem?_map] at hj
    cases hr : rs[j]? with
    | none => rw [hr] at hj; cases hj
    | some q => rw [hr] at hj; exact ⟨q, rfl, Option.some.inj hj⟩
  obtain ⟨q, hq, rfl⟩ := hq
  obtain ⟨hk, ok⟩ := h3 q (List.mem_of_getElem? hq)
  obtain ⟨ka, kc, hv⟩ := hk.slice
  obtain ⟨a, c, rfl, hc, hm, hn, hl, hb⟩ := ownsRow_lies h2
  have get := fun i u hi => rowsC_get rs j q hq i u hi
  rcases hl with h0 | ⟨g, o, rfl, hr⟩
  · have := get 0 _ rfl
    rw [h0] at this
    cases this
  · obtain ⟨-, -, rfl, -⟩ := hb g o none rfl
    rw [hv] at hk
    have c0 := hr _ _ (get 0 _ rfl)
    have c1 := hr _ _ (get 1 _ rfl)
    have c2 := hr _ _ (get 2 _ rfl)
    have c3 := hr _ _ (get 3 _ rfl)
    have c4 := hr _ _ (get 4 _ rfl)
    have c5 := hr _ _ (get 5 _ rfl)
    have c6 := hr _ _ (get 6 _ rfl)
    rw [Nat.zero_add] at c0 c1 c2 c3 c4 c5 c6
    rw [hv] at c6
    exact ⟨g, _, c, ka, kc, rfl, hk, ok, c0, c1, c2, c3, c4, c5, c6⟩

/-- the first bytes of a text -/
def firstOf (s : ByteArray) (k : Nat) : ByteArray := s.extract 0 (min s.size k)

set_option maxRecDepth 10000 in
theorem text_any (s : ByteArray) (k : Nat) (w : World) (hs : s.size ≤ 9223372036854775807) (hk : k ≤ 1000000) :
    Calls Try.prog 40 #[.string s, .int .i64 k] w fun e w' => e = .returned (.string (firstOf s k)) ∧ w' = w := by
  go_enter Try.func40, Try.ntmps40
  go_wp2_with (with_reducible refine wpList_min rfl _ _ _ rfl _ _ _ rfl rfl ?_; intro r hr; have hr2 : 0 ≤ r ∧ r ≤ (s.size : Int) := (by have := hr.out; split at this <;> omega); have hr3 : r.toNat = min s.size k := (by have := hr.out; split at this <;> omega))
  go_ret
  refine ⟨?_, rfl⟩
  unfold firstOf
  rw [← hr3]
  rfl
end Go.Proofs.Ytnbncjebmlicgaa
/- Walk: few. -/
namespace Go.Proofs.Ytnbncjebmlicgaa
open Go.RowKit

def fewN (n : Nd) : Nd := ⟨n.kind, firstOf n.name 64, n.num, n.typ, n.ref, n.kids.take 12⟩
theorem firstOf_size (s : ByteArray) (k : Nat) : (firstOf s k).size ≤ k := by
  unfold firstOf
  rw [ByteArray.size_extract]
  omega
theorem fewN_ok {n : Nd} (h : n.Okw) : (fewN n).Ok := ⟨h.kind, h.typ, h.ref, h.num, Nat.le_trans (firstOf_size _ _) (by decide), by show (n.kids.take 12).length ≤ _; rw [List.length_take]; omega, fun x hx => h.ids x (List.mem_of_mem_take hx)⟩

theorem min_twelve {r : Int} {n : Nat} (h : Hid (r = if (12 : Int) < n then 12 else (n : Int))) : ∃ s : Nat, r = (s : Int) ∧ s = min n 12 := by
  have h' := h.out
  refine ⟨min n 12, ?_, rfl⟩
  rw [h']
  split <;> omega
theorem Ids.firsts {w : World} {a : Option Addr} {c : Nat} {l : List Nat} (h : Ids w (.slice a l.length c) l) (k : Nat) (hk : k ≤ l.length) : Ids w (.slice a k c) (l.take k) := by
  obtain ⟨a', c', e, hm, hc, hn, hr⟩ := h
  cases e
  have hl : (l.take k).length = k := by rw [List.length_take]; omega
  refine ⟨a, c, by rw [hl], by rw [hl]; omega, by rw [hl]; omega, hn, ?_⟩
  rcases hr with h0 | ⟨g, o, ha, hr⟩
  · exact .inl (by rw [h0]; simp)
  · refine .inr ⟨g, o, ha, fun j x hx => hr j x ?_⟩
    rw [List.getElem?_take] at hx
    split at hx
    · exact hx
    · cases hx

set_option maxRecDepth 10000 in
set_option maxHeartbeats 1600000 in
theorem few_any (n : Nd) (a : Option Addr) (c : Nat) (w : World) (hk : Ids w (.slice a n.kids.length c) n.kids) (ok : n.Okw) :
    Calls Try.prog 17 #[NdVal n (.slice a n.kids.length c)] w fun e w' => ∃ v', e = .returned v' ∧ OwnNd w.heap.size w' v' (fewN n) ∧ Below w.heap.size w w' := by
  have HK := Lib.hid hk
  have HOK := Lib.hid ok
  have hnm := ok.name
  unfold NdVal
  obtain ⟨L, hL⟩ : ∃ L, L = n.kids.length := ⟨_, rfl⟩
  have hLm : L ≤ 9223372036854775807 := by
    obtain ⟨_, _, -, hm, -⟩ := hk
    rw [hL]; exact hm
  have hLc : L ≤ c := by
    obtain ⟨_, _, e, -, hc, -⟩ := hk
    cases e
    rw [hL]; exact hc
  rw [← hL] at HK ⊢
  have HL := Lib.hid hL
  clear hk ok hL
  go_enter Try.func17, Try.ntmps17
  go_upto_region 1 with fail
  have hb0 := bal (bal (bre w) (.cells #[.int .u8 n.kind, .string n.name, .int .i64 n.num, .int .u8 n.typ, .int .u64 n.ref, .slice a L c] 29)) (.cells #[.int .u8 0, .string ⟨#[]⟩, .int .i64 0, .int .u8 0, .int .u64 0, .slice none 0 0] 29)
  obtain ⟨hr1, hr2⟩ := two_new w (.cells #[.int .u8 n.kind, .string n.name, .int .i64 n.num, .int .u8 n.typ, .int .u64 n.ref, .slice a L c] 29) (.cells #[.int .u8 0, .string ⟨#[]⟩, .int .i64 0, .int .u8 0, .int .u64 0, .slice none 0 0] 29)
  generalize (w.alloc (.cells #[.int .u8 n.kind, .string n.name, .int .i64 n.num, .int .u8 n.typ, .int .u64 n.ref, .slice a L c] 29)).alloc (.cells #[.int .u8 0, .string ⟨#[]⟩, .int .i64 0, .int .u8 0, .int .u64 0, .slice none 0 0] 29) = W at *
  obtain ⟨n1, hn1⟩ : ∃ n, n = w.heap.size := ⟨_, rfl⟩
  rw [← hn1] at hr1 hr2 ⊢
  obtain ⟨n2, hn2⟩ : ∃ n, n = n1 + 1 := ⟨_, rfl⟩
  rw [← hn2] at hr2
  try rw [← hn2]
  have hR1 : Row6 W n1 n (.slice a L c) := hr1
  have hR2 : Row6 W n2 .zero (.slice none 0 0) := hr2
  have HB0 := Lib.hid hb0
  have HR1 := Lib.hid hR1
  have HR2 := Lib.hid hR2
  have HN1 : Hid (w.heap.size ≤ n1) := Lib.hid (by omega)
  have HN2 : Hid (w.heap.size ≤ n2) := Lib.hid (by omega)
  have HNE : Hid (¬ n2 = n1) := Lib.hid (by omega)
  have y1 := hR1.c1
  have y5 := hR1.c5
  have yf := hR1.fz
  clear hb0 hr1 hr2 hR1 hR2 hn1 hn2
  go_wp2_with fail
  refine (text_any n.name 64 W (by unfold maxLen at hnm; omega) (by decide)).mono ?_
  rintro e w1 ⟨rfl, hw⟩
  have hw' := hw.symm
  subst hw'
  clear hw
  go_upto_region 2 with fail
  obtain ⟨m, hm⟩ : ∃ m : Nd, m = ⟨n.kind, firstOf n.name 64, n.num, n.typ, n.ref, n.kids⟩ := ⟨_, rfl⟩
  have hr3 : Row6 (W.setCell ⟨n1, 1, none⟩ (.string (firstOf n.name 64))) n1 m (.slice a L c) := by rw [hm]; exact heap_setCell_same W n1 1 _ _ _ HR1.out
  have hr4 : Row6 (W.setCell ⟨n1, 1, none⟩ (.string (firstOf n.name 64))) n2 .zero (.slice none 0 0) := HR2.out.only (Only.setCell W ⟨n1, 1, none⟩ _) HNE.out
  have hb3 : Below w.heap.size w (W.setCell ⟨n1, 1, none⟩ (.string (firstOf n.name 64))) := HB0.out.setCell HN1.out _
  generalize W.setCell ⟨n1, 1, none⟩ (.string (firstOf n.name 64)) = w3 at *
  have HR3 := Lib.hid hr3
  have HR4 := Lib.hid hr4
  have HB3 := Lib.hid hb3
  have z5 := hr3.c5
  have zf := hr3.fz
  have HM := Lib.hid hm
  clear hr3 hr4 hb3 hm y1 y5 yf HR1 HR2 HB0
  have hbe := bal (bre w3) (.cells #[] 26)
  have hids : Ids (w3.alloc (.cells #[] 26)) (.slice a n.kids.length c) n.kids := by
    have := HK.out.below (btr HB3.out hbe)
    rwa [HL.out] at this
  have HLI : Hid (∀ k, k ≤ L → Lies (w3.alloc (.cells #[] 26)) a ((n.kids.take k).map U64)) := Lib.hid fun k hk => by
    obtain ⟨a', c', e, -, -, -, hl⟩ := (hids.firsts k (by rw [← HL.out]; exact hk)).lies
    have : a' = a := by injection e with h; exact h.symm
    rw [← this]
    exact hl
  have HNIL : Hid (a = none → c = 0) := Lib.hid (by
    obtain ⟨a', c', e, -, -, hn, -⟩ := hids.lies
    injection e with h1 _ h3
    rw [h1, h3]
    exact hn)
  have HOWN := Lib.hid (own_none w3 26)
  have HLB := Lib.hid (And.intro hLm hLc)
  have hsz := hbe.size
  have HBE := Lib.hid hbe
  have z5a := (HR3.out.below hbe).c5
  clear hids hbe hLm hLc hnm z5 zf
  go_upto_region 3 with first
    | (with_reducible refine wpList_min rfl _ _ _ rfl _ _ _ rfl rfl ?_; intro r hr; obtain ⟨sx, rfl, hsx⟩ := min_twelve hr; have HSX := Lib.hid hsx; have hsx1 : sx ≤ c := (by have := HLB.out.2; omega); have hsx2 : (sx : Int) ≤ (c : Int) := (by omega); clear hr hsx)
    | (at_builtin; refine wpList_app rfl _ _ 27 26 1 8 rowI rfl w3.heap.size _ 0 [] rfl HOWN.out a sx c ((n.kids.take sx).map U64) rfl (by rw [List.length_map, List.length_take, ← HL.out]; have := HSX.out; omega) (HLI.out sx (by have := HSX.out; omega)) hsx1 HNIL.out (U64_one _) (by unfold maxLen; have := HSX.out; omega) (by have := HSX.out; omega) hsz ?_; intro v5 w5 ho5 _ hb5; obtain ⟨a5, c5, rfl, -⟩ := ownsRow_lies ho5; have HO5 := Lib.hid ho5; have HB5 := Lib.hid (HBE.out.trans hb5); have z6 := (HR3.out.below HB5.out).c5; have z7 := (HR3.out.below HB5.out).fz; clear ho5 hb5)
  have hb5 := btr HB3.out HB5.out
  have hr5 := HR3.out.below HB5.out
  obtain ⟨m5, hm5⟩ : ∃ q : Nd, q = fewN n := ⟨_, rfl⟩
  have hr6 : Row6 (w5.setCell ⟨n1, 5, none⟩ (.slice a5 sx c5)) n1 m5 (.slice a5 sx c5) := by
    have := heap_setCell_same w5 n1 5 _ _ (.slice a5 sx c5) hr5
    rw [HM.out] at this
    rw [hm5]
    exact this
  have hr7 : Row6 (w5.setCell ⟨n1, 5, none⟩ (.slice a5 sx c5)) n2 .zero (.slice none 0 0) := (HR4.out.below HB5.out).only (Only.setCell w5 ⟨n1, 5, none⟩ _) HNE.out
  have hb6 : Below w.heap.size w (w5.setCell ⟨n1, 5, none⟩ (.slice a5 sx c5)) := hb5.setCell HN1.out _
  have hkl : (n.kids.take sx).length = sx := by rw [List.length_take, ← HL.out]; have := HSX.out; omega
  have hk5 : OwnIds w3.heap.size w5 (.slice a5 sx c5) m5.kids := by
    have h9 := HO5.out
    rw [Nat.zero_add, List.nil_append] at h9
    have e9 : m5.kids = n.kids.take sx := by
      rw [hm5]
      show n.kids.take 12 = n.kids.take sx
      rw [HSX.out, HL.out]
      rcases Nat.le_total n.kids.length 12 with h | h
      · rw [Nat.min_eq_left h, List.take_of_length_le (Nat.le_refl _), List.take_of_length_le h]
      · rw [Nat.min_eq_right h]
    unfold OwnIds
    rw [e9, hkl]
    exact h9
  have ho6 := hk5.only (Only.setCell w5 ⟨n1, 5, none⟩ (.slice a5 sx c5)) (fun k hk cs fr e => by cases hk; rw [hr5] at e; cases e)
  generalize w5.setCell ⟨n1, 5, none⟩ (.slice a5 sx c5) = w6 at *
  have HR7 := Lib.hid hr7
  have HB6 := Lib.hid hb6
  have HO6 := Lib.hid ho6
  have HM5 := Lib.hid hm5
  have q0 := hr6.c0
  have q1 := hr6.c1
  have q2 := hr6.c2
  have q3 := hr6.c3
  have q4 := hr6.c4
  have q5 := hr6.c5
  have p0 := hr7.c0
  have p1 := hr7.c1
  have p2 := hr7.c2
  have p3 := hr7.c3
  have p4 := hr7.c4
  have p5 := hr7.c5
  have pf := hr7.fz
  clear hb5 hr5 hr6 hr7 hb6 hkl hk5 ho6 hm5 z5a z6 z7
  go_wp2_with fail
  have hrow := HR7.out.put m5 (.slice a5 sx c5)
  have hbel := put6_below HB6.out HN2.out m5 (.slice a5 sx c5)
  have hown := HO6.out.only (put6_only w6 n2 m5 (.slice a5 sx c5)) (fun k hk cs fr e => by cases hk; rw [HR7.out] at e; cases e)
  generalize (((((w6.setCell ⟨n2, 0, none⟩ (.int .u8 m5.kind)).setCell ⟨n2, 1, none⟩ (.string m5.name)).setCell ⟨n2, 2, none⟩ (.int .i64 m5.num)).setCell ⟨n2, 3, none⟩ (.int .u8 m5.typ)).setCell ⟨n2, 4, none⟩ (.int .u64 m5.ref)).setCell ⟨n2, 5, none⟩ (.slice a5 sx c5) = W9 at *
  have d0 := hrow.c0
  have d1 := hrow.c1
  have d2 := hrow.c2
  have d3 := hrow.c3
  have d4 := hrow.c4
  have d5 := hrow.c5
  refine bodyPost_ret (v := NdVal m5 (.slice a5 sx c5)) (by simp [results, Try.results17, go_sem, d0, d1, d2, d3, d4, d5, NdVal]) rfl ?_
  exact ⟨_, rfl, by rw [← HM5.out]; exact ⟨_, rfl, hown.base HB3.out.size, by rw [HM5.out]; exact fewN_ok HOK.out⟩, hbel⟩
end Go.Proofs.Ytnbncjebmlicgaa
/- The reference's Put: rising: plainly, and the walk. -/
namespace Go.Proofs.Ytnbncjebmlicgaa
open Go.RowKit

section
variable {α : Type}
def putD (l : List (Nat × α)) (x : Nat) : Bool := l.any fun p => decide (x < p.1)
def putO (l : List (Nat × α)) (x : Nat) (n : α) : List (Nat × α) := if putD l x = true then insA (x, n) (delA l x) else delA l x
theorem insA_last {m : List (Nat × α)} {x r : Nat × α} (h : ∀ p ∈ m, ¬ x.1 < p.1) (hr : x.1 < r.1) : insA x (m ++ [r]) = m ++ [x, r] := by
  induction m with
  | nil => show insA x [r] = [x, r]; unfold insA; rw [if_pos hr]
  | cons y s ih =>
    show insA x (y :: (s ++ [r])) = y :: (s ++ [x, r])
    unfold insA
    rw [if_neg (h y (List.mem_cons_self ..)), ih fun p hp => h p (List.mem_cons_of_mem _ hp)]
theorem insA_end {m : List (Nat × α)} {x : Nat × α} (h : ∀ p ∈ m, ¬ x.1 < p.1) : insA x m = m ++ [x] := by
  induction m with
  | nil => rfl
  | cons y s ih =>
    show insA x (y :: s) = y :: (s ++ [x])
    unfold insA
    rw [if_neg (h y (List.mem_cons_self ..)), ih fun p hp => h p (List.mem_cons_of_mem _ hp)]
theorem insA_more {m : List (Nat × α)} {x r : Nat × α} (h : ∃ p ∈ m, x.1 < p.1) : insA x (m ++ [r]) = insA x m ++ [r] := by
  induction m with
  | nil => obtain ⟨p, hp, -⟩ := h; cases hp
  | cons y s ih =>
    show insA x (y :: (s ++ [r])) = insA x (y :: s) ++ [r]
    unfold insA
    by_cases hy : x.1 < y.1
    · rw [if_pos hy, if_pos hy]; rfl
    · rw [if_neg hy, if_neg hy, ih]
      · rfl
      · obtain ⟨p, hp, hx⟩ := h
        rcases List.mem_cons.1 hp with rfl | hp
        · exact absurd hx hy
        · exact ⟨p, hp, hx⟩
theorem delA_app (l : List (Nat × α)) (r : Nat × α) (x : Nat) : delA (l ++ [r]) x = delA l x ++ (if r.1 = x then [] else [r]) := by
  unfold delA
  rw [List.filter_append, List.filter_cons]
  by_cases h : r.1 = x
  · rw [if_neg (by simp [h]), if_pos h]; rfl
  · rw [if_pos (by simpa using h), if_neg h]; rfl
theorem putD_app (l : List (Nat × α)) (r : Nat × α) (x : Nat) : putD (l ++ [r]) x = (putD l x || decide (x < r.1)) := by
  unfold putD
  rw [List.any_append]
  simp
theorem putD_del {l : List (Nat × α)} {x : Nat} (h : putD l x = true) : ∃ p ∈ delA l x, x < p.1 := by
  obtain ⟨p, hp, hx⟩ := List.any_eq_true.1 h
  have hx' : x < p.1 := by simpa using hx
  exact ⟨p, List.mem_filter.2 ⟨hp, by simp; omega⟩, hx'⟩
theorem putD_not {l : List (Nat × α)} {x : Nat} (h : putD l x = false) : ∀ p ∈ delA l x, ¬ x < p.1 := fun p hp hx => by
  have := List.any_eq_false.1 h p (List.mem_filter.1 hp).1
  simp at this
  omega
theorem putO_skip {l : List (Nat × α)} {r : Nat × α} {x : Nat} (n : α) (h : r.1 = x) : putD (l ++ [r]) x = putD l x ∧ putO (l ++ [r]) x n = putO l x n := by
  have h1 : putD (l ++ [r]) x = putD l x := by rw [putD_app, decide_eq_false (by omega), Bool.or_false]
  refine ⟨h1, ?_⟩
  unfold putO
  rw [h1, delA_app, if_pos h, List.append_nil]
theorem putO_in {l : List (Nat × α)} {r : Nat × α} {x : Nat} (n : α) (h : x < r.1) (hd : putD l x = false) : putD (l ++ [r]) x = true ∧ putO (l ++ [r]) x n = (putO l x n ++ [(x, n)]) ++ [r] := by
  have h1 : putD (l ++ [r]) x = true := by rw [putD_app, decide_eq_true h, Bool.or_true]
  refine ⟨h1, ?_⟩
  unfold putO
  rw [if_pos h1, if_neg (by rw [hd]; decide), delA_app, if_neg (by omega), insA_last (putD_not hd) h]
  simp
theorem putO_on {l : List (Nat × α)} {r : Nat × α} {x : Nat} (n : α) (h : r.1 ≠ x) (hd : x < r.1 → putD l x = true) (hs : r.1 < x → putD l x = false) : putD (l ++ [r]) x = putD l x ∧ putO (l ++ [r]) x n = putO l x n ++ [r] := by
  by_cases hx : x < r.1
  · have h2 := hd hx
    have h1 : putD (l ++ [r]) x = true := by rw [putD_app, h2]; rfl
    refine ⟨by rw [h1, h2], ?_⟩
    unfold putO
    rw [if_pos h1, if_pos h2, delA_app, if_neg h, insA_more (putD_del h2)]
  · have h2 := hs (by omega)
    have h1 : putD (l ++ [r]) x = false := by rw [putD_app, h2, decide_eq_false hx]; rfl
    refine ⟨by rw [h1, h2], ?_⟩
    unfold putO
    rw [if_neg (by rw [h1]; decide), if_neg (by rw [h2]; decide), delA_app, if_neg h]
theorem putO_done {l : List (Nat × α)} {x : Nat} (n : α) (h : putD l x = true) : putO l x n = putA l x n := by unfold putO putA; rw [if_pos h]
theorem putO_last {l : List (Nat × α)} {x : Nat} (n : α) (h : putD l x = false) : putO l x n ++ [(x, n)] = putA l x n := by
  unfold putO putA
  rw [if_neg (by rw [h]; decide), insA_end (putD_not h)]
theorem putO_len (l : List (Nat × α)) (x : Nat) (n : α) : (putO l x n).length ≤ l.length + 1 := by
  have : (delA l x).length ≤ l.length := List.length_filter_le _ _
  unfold putO
  split
  · rw [length_insA]; omega
  · omega
theorem asc_before {l : List (Nat × α)} {r : Nat × α} {s : List (Nat × α)} (h : AscA (l ++ r :: s)) {x : Nat} (hx : r.1 < x) : putD l x = false := by
  refine List.any_eq_false.2 fun p hp => ?_
  have := (List.pairwise_append.1 h.1).2.2 p hp r (List.mem_cons_self ..)
  simp
  omega
end

theorem rows_more {base : Nat} {w w' : World} {v v' : Value} {rs : List ((Nat × Nd) × Value)} {p : Nat × Nd} {kv : Value} (h2 : w.ownsRow base 80 7 v rs.length (rowsC rs)) (h3 : ∀ q ∈ rs, OwnIds 0 w q.2 q.1.2.kids ∧ q.1.2.Ok) (hk : OwnIds 0 w kv p.2.kids) (ok : p.2.Ok)
    (hg : w.grownBy w' v.ownBlock) (ho : w'.ownsRow base 80 7 v' (rs.length + 1) (rowsC rs ++ rowC p kv)) : RowsX base w' v' (rs.map (·.1) ++ [p]) := by
  have hno : ∀ k, v.ownBlock = some k → ∀ cs fr, w.heap[k]? ≠ some (.cells cs 26 fr) := fun k hkb cs fr e => by
    rcases h2.2 with ⟨rfl, -⟩ | ⟨g, cap, cur, rfl, hb, hgg, h4⟩
    · cases hkb
    · cases hkb
      rw [hgg] at e
      cases e
  have hon := Only.of_grown hg
  refine ⟨rs ++ [(p, kv)], by rw [List.map_append]; rfl, ?_, fun q hq => ?_⟩
  · rw [rowsC_app, List.length_append, List.length_map]
    have e : rowsC [(p, kv)] = rowC p kv := by unfold rowsC; rw [List.flatMap_cons, List.flatMap_nil, List.append_nil]
    rw [e]
    exact ho
  · rcases List.mem_append.1 hq with hq | hq
    · exact ⟨(h3 q hq).1.only hon hno, (h3 q hq).2⟩
    · rw [List.mem_singleton.1 hq]
      exact ⟨hk.only hon hno, ok⟩
theorem lies_seven (w : World) (v0 v1 v2 v3 v4 v5 v6 : Value) (t : TypeId) : Lies (w.alloc (.cells #[v0, v1, v2, v3, v4, v5, v6] t)) (some ⟨w.heap.size, 0, none⟩) [v0, v1, v2, v3, v4, v5, v6] :=
  .inr ⟨_, _, rfl, fun j u hu => by
    have := World.cell?_alloc_new w #[v0, v1, v2, v3, v4, v5, v6] t j
    rw [Nat.zero_add, this]
    simpa using hu⟩
theorem rowsC_one (rs : List ((Nat × Nd) × Value)) (h : ∀ q ∈ rs, ∃ a n c, q.2 = .slice a n c) : ∀ u ∈ rowsC rs, u.oneCell' = true := fun u hu => by
  unfold rowsC at hu
  obtain ⟨q, hq, hu⟩ := List.mem_flatMap.1 hu
  obtain ⟨a, n, c, e⟩ := h q hq
  unfold rowC at hu
  rw [e] at hu
  simp at hu
  rcases hu with rfl | rfl | rfl | rfl | rfl | rfl | rfl <;> rfl

/-- seven cells that hold a row -/
def Row7 (w : World) (g : Nat) (p : Nat × Nd) (kv : Value) : Prop := w.heap[g]? = some (.cells #[.int .u64 p.1, .int .u8 p.2.kind, .string p.2.name, .int .i64 p.2.num, .int .u8 p.2.typ, .int .u64 p.2.ref, kv] 80 (0, 0))
theorem Row7.lt {w : World} {g : Nat} {p : Nat × Nd} {kv : Value} (h : Row7 w g p kv) : g < w.heap.size := (Array.getElem?_eq_some_iff.1 h).1
theorem Row7.below {w w' : World} {g : Nat} {p : Nat × Nd} {kv : Value} (h : Row7 w g p kv) (hb : Below w.heap.size w w') : Row7 w' g p kv := (hb.block g h.lt).trans h
theorem Row7.cells {w : World} {g : Nat} {p : Nat × Nd} {kv : Value} (h : Row7 w g p kv) : w.cell? ⟨g, 0, none⟩ = some (.int .u64 p.1) ∧ w.cell? ⟨g, 1, none⟩ = some (.int .u8 p.2.kind) ∧ w.cell? ⟨g, 2, none⟩ = some (.string p.2.name) ∧ w.cell? ⟨g, 3, none⟩ = some (.int .i64 p.2.num) ∧ w.cell? ⟨g, 4, none⟩ = some (.int .u8 p.2.typ) ∧ w.cell? ⟨g, 5, none⟩ = some (.int .u64 p.2.ref) ∧ w.cell? ⟨g, 6, none⟩ = some kv :=
  ⟨cell_of_row w g 0 _ _ _ h, cell_of_row w g 1 _ _ _ h, cell_of_row w g 2 _ _ _ h, cell_of_row w g 3 _ _ _ h, cell_of_row w g 4 _ _ _ h, cell_of_row w g 5 _ _ _ h, cell_of_row w g 6 _ _ _ h⟩
theorem Row7.kept {w w' : World} {g : Nat} {p : Nat × Nd} {kv : Value} {row : Option Nat} (h : Row7 w g p kv) (hg : w.grownBy w' row) (hne : ∀ q, row = some q → q ≠ g) : Row7 w' g p kv := (hg.block g h.lt (fun e => hne g e.symm rfl)).trans h
theorem OwnIds.kept {w w' : World} {v u : Value} {l : List Nat} {base n : Nat} {xs : List Value} (h : OwnIds 0 w v l) (ho : w.ownsRow base 80 7 u n xs) (hg : w.grownBy w' u.ownBlock) : OwnIds 0 w' v l :=
  h.only (Only.of_grown hg) fun k hkb cs fr e => by
    rcases ho.2 with ⟨rfl, -⟩ | ⟨g, cap, cur, rfl, hb, hgg, h4⟩
    · cases hkb
    · cases hkb
      rw [hgg] at e
      cases e
end Go.Proofs.Ytnbncjebmlicgaa
