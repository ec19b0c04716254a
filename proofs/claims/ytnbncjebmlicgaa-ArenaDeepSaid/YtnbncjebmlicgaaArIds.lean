/- Walk: equal, Equal of IDs; Same of arenas. -/
import Derived.Test.YtnbncjebmlicgaaArCopy
namespace Go.Proofs.Ytnbncjebmlicgaa
open Go.RowKit

/-- two nodes are alike -/
def ndSame (m n : Nd) : Bool := decide (m.kind = n.kind) && decide (m.name = n.name) && decide (m.num = n.num) && decide (m.typ = n.typ) && decide (m.ref = n.ref) && decide (m.kids = n.kids)
theorem ndSame_iff (m n : Nd) : ndSame m n = true ↔ m = n := by
  unfold ndSame
  cases m
  cases n
  simp [and_assoc]

set_option maxRecDepth 10000 in
set_option maxHeartbeats 1600000 in
theorem idequal_any (v u : Value) (l m : List Nat) (w : World) (hv : Ids w v l) (hu : Ids w u m) :
    Calls Try.prog 68 #[v, u] w fun e w' => e = .returned (.bool (decide (l = m))) ∧ ∃ n, w' = w.drewN n := by
  obtain ⟨a, c, rfl, hm, hc, -, hrow⟩ := hv
  obtain ⟨a2, c2, rfl, hm2, hc2, -, hrow2⟩ := hu
  have HR := Lib.hid hrow
  have HR2 := Lib.hid hrow2
  obtain ⟨L, hL⟩ : ∃ L, L = l.length := ⟨_, rfl⟩
  rw [← hL] at hm hc ⊢
  have HL := Lib.hid hL
  obtain ⟨M, hM⟩ : ∃ L, L = m.length := ⟨_, rfl⟩
  rw [← hM] at hm2 hc2 ⊢
  have HM := Lib.hid hM
  obtain ⟨R, hR⟩ : ∃ R, R = decide (l = m) := ⟨_, rfl⟩
  rw [← hR]
  have HRES := Lib.hid hR
  unfold maxLen at hm hm2
  clear hrow hrow2 hL hM hR
  by_cases hlen : L = M
  · subst hlen
    go_enter Try.func68, Try.ntmps68
    go_wp2_with fail
    go_loopw [5, 13] (fun _ i wr => ∃ k n : Nat, k ≤ L ∧ i = .int .i64 k ∧ wr = w.drewN n ∧ Hid (l.take k = m.take k)) (fun _ i _ => L - (intOf i).toNat)
    case atStart => exact ⟨0, 0, by omega, rfl, rfl, Lib.hid rfl⟩
    case round =>
      obtain ⟨k, n, hk, rfl, rfl, htk⟩ := hrel
      by_cases hlt : k < L
      · have d1 : decide ((k : Int) < (L : Int)) = true := decide_eq_true (by omega)
        have d1n : decide (k < L) = true := decide_eq_true hlt
        have hkl : k < l.length := by rw [← HL.out]; exact hlt
        have hkm : k < m.length := by rw [← HM.out]; exact hlt
        rcases HR.out with h0 | ⟨gb, ob, rfl, hcell⟩
        · rw [h0] at hkl; simp at hkl
        rcases HR2.out with h0 | ⟨gb2, ob2, rfl, hcell2⟩
        · rw [h0] at hkm; simp at hkm
        obtain ⟨u1, hu1, rfl⟩ := hcell k _ (List.getElem?_eq_getElem hkl)
        obtain ⟨u2, hu2, rfl⟩ := hcell2 k _ (List.getElem?_eq_getElem hkm)
        have hx : l[k]? = some l[k] := List.getElem?_eq_getElem hkl
        have hy : m[k]? = some m[k] := List.getElem?_eq_getElem hkm
        generalize l[k] = x at *
        generalize m[k] = y at *
        unfold U64 at hu1 hu2
        have hp : l.take (k + 1) = l.take k ++ [x] := by rw [List.take_add_one, hx]; rfl
        have hq : m.take (k + 1) = m.take k ++ [y] := by rw [List.take_add_one, hy]; rfl
        have HX := Lib.hid hx
        have HY := Lib.hid hy
        clear hcell hcell2 hx hy hkl hkm
        by_cases hxy : x = y
        · have e1 : ((x : Int) != (y : Int)) = false := by simp [hxy]
          have HT1 : Hid (l.take (k + 1) = m.take (k + 1)) := Lib.hid (by rw [hp, hq, htk.out, hxy])
          clear hxy hp hq htk
          go_wp2_with fail
          go_quiet (fail)
          go_wp2
          go_roundw
          case rel => exact ⟨k + 1, _, by omega, by go_num, rfl, HT1⟩
          case measure => simp [intOf]; omega
        · have e1 : ((x : Int) != (y : Int)) = true := by
            simp only [bne_iff_ne, ne_eq, Int.natCast_inj]
            exact hxy
          have hRf : R = false := by
            rw [HRES.out]
            refine decide_eq_false fun e => hxy ?_
            have h1 := HX.out
            rw [e, HY.out] at h1
            exact (Option.some.inj h1).symm
          subst hRf
          clear hxy hp hq htk
          go_wp2_with fail
          go_quiet (fail)
          go_wp2
          go_ret
          exact ⟨rfl, n + nq, by simp⟩
      · have d1 : decide ((k : Int) < (L : Int)) = false := decide_eq_false (by omega)
        have d1n : decide (k < L) = false := decide_eq_false hlt
        have hek : l = m := by
          have h1 := htk.out
          rwa [List.take_of_length_le (by rw [← HL.out]; omega), List.take_of_length_le (by rw [← HM.out]; omega)] at h1
        have hRt : R = true := by rw [HRES.out]; exact decide_eq_true hek
        subst hRt
        clear hek htk
        go_wp2_with fail
        go_ret
        exact ⟨rfl, _, rfl⟩
  · have q1 : ((L : Int) == (M : Int)) = false := beq_false_of_ne (by omega)
    have q2 : ((L : Int) != (M : Int)) = true := by rw [bne, q1]; rfl
    have q3 : ¬ (L : Int) = (M : Int) := by omega
    have q4 : decide ((L : Int) = (M : Int)) = false := decide_eq_false (by omega)
    have q5 : (L == M) = false := beq_false_of_ne hlen
    have q6 : (L != M) = true := by rw [bne, q5]; rfl
    have hRf : R = false := by
      rw [HRES.out]
      exact decide_eq_false fun e => hlen (by rw [HL.out, HM.out, e])
    subst hRf
    go_enter Try.func68, Try.ntmps68
    go_wp2_with fail
    go_ret
    exact ⟨rfl, 0, rfl⟩

theorem str_toList_inj {y s : ByteArray} (h : y.toList = s.toList) : y = s := by
  rw [ByteArray.toList_eq, ByteArray.toList_eq] at h
  cases y; cases s
  simp at h
  rw [h]
theorem str_eq_beq {y s : ByteArray} (h : y = s) : (y.toList == s.toList) = true := by subst h; simp
theorem str_ne_beq {y s : ByteArray} (h : y ≠ s) : (y.toList == s.toList) = false := beq_false_of_ne fun e => h (str_toList_inj e)
theorem str_ne_dec {y s : ByteArray} (h : y ≠ s) : decide (y.toList = s.toList) = false := decide_eq_false fun e => h (str_toList_inj e)

set_option maxRecDepth 10000 in
set_option maxHeartbeats 3200000 in
theorem arequal_any (v u : Value) (m n : Nd) (w : World) (hv : NdAt w v m) (hu : NdAt w u n) :
    Calls Try.prog 47 #[v, u] w fun e w' => e = .returned (.bool (ndSame m n)) ∧ Below w.heap.size w w' := by
  obtain ⟨kv, rfl, hk, -⟩ := hv
  obtain ⟨ku, rfl, hk2, -⟩ := hu
  obtain ⟨a, c, rfl⟩ := hk.slice
  obtain ⟨a2, c2, rfl⟩ := hk2.slice
  obtain ⟨R, hR⟩ : ∃ R, R = ndSame m n := ⟨_, rfl⟩
  rw [← hR]
  have HRES := Lib.hid hR
  have HK := Lib.hid hk
  have HK2 := Lib.hid hk2
  obtain ⟨L, hL⟩ : ∃ L, L = m.kids.length := ⟨_, rfl⟩
  obtain ⟨M, hM⟩ : ∃ L, L = n.kids.length := ⟨_, rfl⟩
  unfold NdVal
  rw [← hL] at HK ⊢
  rw [← hM] at HK2 ⊢
  clear hk hk2 hR hL hM
  go_enter Try.func47, Try.ntmps47
  go_upto_region 1 with fail
  have hb0 := bal (bal (bre w) (.cells #[.int .u8 m.kind, .string m.name, .int .i64 m.num, .int .u8 m.typ, .int .u64 m.ref, .slice a L c] 29)) (.cells #[.int .u8 n.kind, .string n.name, .int .i64 n.num, .int .u8 n.typ, .int .u64 n.ref, .slice a2 M c2] 29)
  obtain ⟨hr1, hr2⟩ := two_new w (.cells #[.int .u8 m.kind, .string m.name, .int .i64 m.num, .int .u8 m.typ, .int .u64 m.ref, .slice a L c] 29) (.cells #[.int .u8 n.kind, .string n.name, .int .i64 n.num, .int .u8 n.typ, .int .u64 n.ref, .slice a2 M c2] 29)
  generalize (w.alloc (.cells #[.int .u8 m.kind, .string m.name, .int .i64 m.num, .int .u8 m.typ, .int .u64 m.ref, .slice a L c] 29)).alloc (.cells #[.int .u8 n.kind, .string n.name, .int .i64 n.num, .int .u8 n.typ, .int .u64 n.ref, .slice a2 M c2] 29) = W at *
  obtain ⟨n1, hn1⟩ : ∃ n, n = w.heap.size := ⟨_, rfl⟩
  rw [← hn1] at hr1 hr2 ⊢
  obtain ⟨n2, hn2⟩ : ∃ n, n = n1 + 1 := ⟨_, rfl⟩
  rw [← hn2] at hr2
  try rw [← hn2]
  have hR1 : Row6 W n1 m (.slice a L c) := hr1
  have hR2 : Row6 W n2 n (.slice a2 M c2) := hr2
  have p0 := hR1.c0
  have p1 := hR1.c1
  have p2 := hR1.c2
  have p3 := hR1.c3
  have p4 := hR1.c4
  have p5 := hR1.c5
  have r0 := hR2.c0
  have r1 := hR2.c1
  have r2 := hR2.c2
  have r3 := hR2.c3
  have r4 := hR2.c4
  have r5 := hR2.c5
  have HB := Lib.hid hb0
  clear hb0 hr1 hr2 hR1 hR2 hn1 hn2
  by_cases h0 : m.kind = n.kind
  · have s0 : ((m.kind : Int) == (n.kind : Int)) = true := beq_iff_eq.2 (by omega)
    by_cases h1 : m.name = n.name
    · have s1 : (m.name.toList == n.name.toList) = true := str_eq_beq h1
      by_cases h2 : m.num = n.num
      · have s2 : (m.num == n.num) = true := beq_iff_eq.2 h2
        by_cases h3 : m.typ = n.typ
        · have s3 : ((m.typ : Int) == (n.typ : Int)) = true := beq_iff_eq.2 (by omega)
          by_cases h4 : m.ref = n.ref
          · have s4 : ((m.ref : Int) == (n.ref : Int)) = true := beq_iff_eq.2 (by omega)
            have hfin : ndSame m n = decide (m.kids = n.kids) := by unfold ndSame; rw [decide_eq_true h0, decide_eq_true h1, decide_eq_true h2, decide_eq_true h3, decide_eq_true h4]; rfl
            have HF := Lib.hid hfin
            have HH := Lib.hid (And.intro h0 (And.intro h1 (And.intro h2 (And.intro h3 h4))))
            clear hfin h0 h1 h2 h3 h4
            go_wp2_with fail
            refine (idequal_any _ _ m.kids n.kids W (HK.out.below HB.out) (HK2.out.below HB.out)).mono ?_
            rintro e W2 ⟨rfl, nq, rfl⟩
            have hRt : R = decide (m.kids = n.kids) := by rw [HRES.out, HF.out]
            have HRT := Lib.hid hRt
            clear hRt
            rw [← HRT.out]
            go_wp2_with fail
            go_ret
            exact ⟨rfl, bdn HB.out nq⟩
          · have s4 : ((m.ref : Int) == (n.ref : Int)) = false := beq_false_of_ne (by omega)
            have t4 : decide ((m.ref : Int) = (n.ref : Int)) = false := decide_eq_false (by omega)
            have hRf : R = false := by rw [HRES.out]; unfold ndSame; simp [h4]
            subst hRf
            go_wp2_with fail
            go_ret
            exact ⟨rfl, HB.out⟩
        · have s3 : ((m.typ : Int) == (n.typ : Int)) = false := beq_false_of_ne (by omega)
          have t3 : decide ((m.typ : Int) = (n.typ : Int)) = false := decide_eq_false (by omega)
          have hRf : R = false := by rw [HRES.out]; unfold ndSame; simp [h3]
          subst hRf
          go_wp2_with fail
          go_ret
          exact ⟨rfl, HB.out⟩
      · have s2 : (m.num == n.num) = false := beq_false_of_ne h2
        have t2 : decide (m.num = n.num) = false := decide_eq_false h2
        have hRf : R = false := by rw [HRES.out]; unfold ndSame; simp [h2]
        subst hRf
        go_wp2_with fail
        go_ret
        exact ⟨rfl, HB.out⟩
    · have s1 : (m.name.toList == n.name.toList) = false := str_ne_beq h1
      have t1 : decide (m.name.toList = n.name.toList) = false := str_ne_dec h1
      have hRf : R = false := by rw [HRES.out]; unfold ndSame; simp [h1]
      subst hRf
      go_wp2_with fail
      go_ret
      exact ⟨rfl, HB.out⟩
  · have s0 : ((m.kind : Int) == (n.kind : Int)) = false := beq_false_of_ne (by omega)
    have t0 : decide ((m.kind : Int) = (n.kind : Int)) = false := decide_eq_false (by omega)
    have hRf : R = false := by rw [HRES.out]; unfold ndSame; simp [h0]
    subst hRf
    go_wp2_with fail
    go_ret
    exact ⟨rfl, HB.out⟩
end Go.Proofs.Ytnbncjebmlicgaa
