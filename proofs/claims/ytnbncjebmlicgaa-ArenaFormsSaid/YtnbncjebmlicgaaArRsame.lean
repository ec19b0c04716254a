/- Walk: the reference's Same, Equal. -/
import Derived.Test.YtnbncjebmlicgaaArLay
namespace Go.Proofs.Ytnbncjebmlicgaa
open Go.RowKit

theorem ids_cells {w : World} {a : Option Addr} {n c : Nat} {l : List Nat} (h : Ids w (.slice a n c) l) : ∀ (j x : Nat), l[j]? = some x → ∃ g o, a = some ⟨g, o, none⟩ ∧ w.cell? ⟨g, o + j, none⟩ = some (.int .u64 x) := fun j x hj => by
  obtain ⟨g, o, c', e, hc⟩ := h.cell j x hj
  injection e with h1
  exact ⟨g, o, h1, hc⟩
set_option maxRecDepth 10000 in
set_option maxHeartbeats 3200000 in
theorem rsame_any (v u : Value) (m n : Nd) (w : World) (hv : NdAt w v m) (hu : NdAt w u n) :
    Calls Try.prog 21 #[v, u] w fun e w' => e = .returned (.bool (ndSame m n)) ∧ Below w.heap.size w w' := by
  obtain ⟨kv, rfl, hk, -⟩ := hv
  obtain ⟨ku, rfl, hk2, -⟩ := hu
  obtain ⟨a, c, rfl⟩ := hk.slice
  obtain ⟨a2, c2, rfl⟩ := hk2.slice
  obtain ⟨R, hR⟩ : ∃ R, R = ndSame m n := ⟨_, rfl⟩
  rw [← hR]
  have HRES := Lib.hid hR
  have HK := Lib.hid hk
  have HK2 := Lib.hid hk2
  obtain ⟨L, hL⟩ : ∃ L, L = m.kids.length := ⟨_, rfl⟩
  obtain ⟨M, hM⟩ : ∃ L, L = n.kids.length := ⟨_, rfl⟩
  unfold NdVal
  rw [← hL] at HK ⊢
  rw [← hM] at HK2 ⊢
  have HLL := Lib.hid (And.intro hL hM)
  have hLm : L ≤ 9223372036854775807 := by
    obtain ⟨_, _, -, h9, -⟩ := hk
    rw [hL]; exact h9
  clear hk hk2 hR hL hM
  go_enter Try.func21, Try.ntmps21
  go_upto_region 1 with fail
  have hb0 := bal (bal (bre w) (.cells #[.int .u8 m.kind, .string m.name, .int .i64 m.num, .int .u8 m.typ, .int .u64 m.ref, .slice a L c] 29)) (.cells #[.int .u8 n.kind, .string n.name, .int .i64 n.num, .int .u8 n.typ, .int .u64 n.ref, .slice a2 M c2] 29)
  obtain ⟨hr1, hr2⟩ := two_new w (.cells #[.int .u8 m.kind, .string m.name, .int .i64 m.num, .int .u8 m.typ, .int .u64 m.ref, .slice a L c] 29) (.cells #[.int .u8 n.kind, .string n.name, .int .i64 n.num, .int .u8 n.typ, .int .u64 n.ref, .slice a2 M c2] 29)
  generalize (w.alloc (.cells #[.int .u8 m.kind, .string m.name, .int .i64 m.num, .int .u8 m.typ, .int .u64 m.ref, .slice a L c] 29)).alloc (.cells #[.int .u8 n.kind, .string n.name, .int .i64 n.num, .int .u8 n.typ, .int .u64 n.ref, .slice a2 M c2] 29) = W at *
  obtain ⟨n1, hn1⟩ : ∃ n, n = w.heap.size := ⟨_, rfl⟩
  rw [← hn1] at hr1 hr2 ⊢
  obtain ⟨n2, hn2⟩ : ∃ n, n = n1 + 1 := ⟨_, rfl⟩
  rw [← hn2] at hr2
  try rw [← hn2]
  have hR1 : Row6 W n1 m (.slice a L c) := hr1
  have hR2 : Row6 W n2 n (.slice a2 M c2) := hr2
  have p0 := hR1.c0
  have p1 := hR1.c1
  have p2 := hR1.c2
  have p3 := hR1.c3
  have p4 := hR1.c4
  have p5 := hR1.c5
  have r0 := hR2.c0
  have r1 := hR2.c1
  have r2 := hR2.c2
  have r3 := hR2.c3
  have r4 := hR2.c4
  have r5 := hR2.c5
  have HB := Lib.hid hb0
  clear hb0 hr1 hr2 hR1 hR2 hn1 hn2
  by_cases h0 : m.kind = n.kind
  · have s0 : ((m.kind : Int) == (n.kind : Int)) = true := beq_iff_eq.2 (by omega)
    have t0 : ((m.kind : Int) != (n.kind : Int)) = false := by rw [bne, s0]; rfl
    by_cases h1 : m.name = n.name
    · have s1 : (m.name.toList == n.name.toList) = true := str_eq_beq h1
      have t1 : (m.name.toList != n.name.toList) = false := by rw [bne, s1]; rfl
      by_cases h2 : m.num = n.num
      · have s2 : (m.num == n.num) = true := beq_iff_eq.2 h2
        have t2 : (m.num != n.num) = false := by rw [bne, s2]; rfl
        by_cases h3 : m.typ = n.typ
        · have s3 : ((m.typ : Int) == (n.typ : Int)) = true := beq_iff_eq.2 (by omega)
          have t3 : ((m.typ : Int) != (n.typ : Int)) = false := by rw [bne, s3]; rfl
          by_cases h4 : m.ref = n.ref
          · have s4 : ((m.ref : Int) == (n.ref : Int)) = true := beq_iff_eq.2 (by omega)
            have t4 : ((m.ref : Int) != (n.ref : Int)) = false := by rw [bne, s4]; rfl
            by_cases h5 : L = M
            · have s5 : ((L : Int) == (M : Int)) = true := beq_iff_eq.2 (by omega)
              have t5 : ((L : Int) != (M : Int)) = false := by rw [bne, s5]; rfl
              have hfin : ndSame m n = decide (m.kids = n.kids) := by unfold ndSame; rw [decide_eq_true h0, decide_eq_true h1, decide_eq_true h2, decide_eq_true h3, decide_eq_true h4]; rfl
              have HF := Lib.hid hfin
              subst h5
              clear hfin h0 h1 h2 h3 h4
              go_wp2_with fail
              have hrow1 := ids_cells (show Ids W (.slice a L c) m.kids from HK.out.below HB.out)
              have hrow2 := ids_cells (show Ids W (.slice a2 L c2) n.kids from HK2.out.below HB.out)
              have HRA := Lib.hid hrow1
              have HRB := Lib.hid hrow2
              have hRd : R = decide (m.kids = n.kids) := by rw [HRES.out, HF.out]
              have HRD := Lib.hid hRd
              clear hrow1 hrow2 hRd p0 p1 p2 p3 p4 r0 r1 r2 r3 r4 s0 s1 s2 s3 s4 s5 t0 t1 t2 t3 t4 t5
              go_loopw [5, 51] (fun _ i wr => ∃ k nn : Nat, k ≤ L ∧ i = .int .i64 k ∧ wr = W.drewN nn ∧ Hid (m.kids.take k = n.kids.take k)) (fun _ i _ => L - (intOf i).toNat)
              case atStart => exact ⟨0, 0, by omega, rfl, rfl, Lib.hid rfl⟩
              case round =>
                obtain ⟨k, nn, hk, rfl, rfl, htk⟩ := hrel
                by_cases hlt : k < L
                · have d1 : decide ((k : Int) < (L : Int)) = true := decide_eq_true (by omega)
                  have d1n : decide (k < L) = true := decide_eq_true hlt
                  have hkl : k < m.kids.length := by rw [← HLL.out.1]; exact hlt
                  have hkm : k < n.kids.length := by rw [← HLL.out.2]; exact hlt
                  obtain ⟨gb, ob, hga, hu1⟩ := HRA.out k _ (List.getElem?_eq_getElem hkl)
                  obtain ⟨gb2, ob2, hgb, hu2⟩ := HRB.out k _ (List.getElem?_eq_getElem hkm)
                  subst hga
                  subst hgb
                  have hx : m.kids[k]? = some m.kids[k] := List.getElem?_eq_getElem hkl
                  have hy : n.kids[k]? = some n.kids[k] := List.getElem?_eq_getElem hkm
                  generalize m.kids[k] = x at *
                  generalize n.kids[k] = y at *
                  have hp : m.kids.take (k + 1) = m.kids.take k ++ [x] := by rw [List.take_add_one, hx]; rfl
                  have hq : n.kids.take (k + 1) = n.kids.take k ++ [y] := by rw [List.take_add_one, hy]; rfl
                  have HX := Lib.hid hx
                  have HY := Lib.hid hy
                  clear hx hy hkl hkm
                  by_cases hxy : x = y
                  · have e1 : ((x : Int) != (y : Int)) = false := by simp [hxy]
                    have HT1 : Hid (m.kids.take (k + 1) = n.kids.take (k + 1)) := Lib.hid (by rw [hp, hq, htk.out, hxy])
                    clear hxy hp hq htk
                    go_wp2_with fail
                    go_quiet (fail)
                    go_wp2
                    go_roundw
                    case rel => exact ⟨k + 1, _, by omega, by go_num, rfl, HT1⟩
                    case measure => simp [intOf]; omega
                  · have e1 : ((x : Int) != (y : Int)) = true := by
                      simp only [bne_iff_ne, ne_eq, Int.natCast_inj]
                      exact hxy
                    have hRf : R = false := by
                      rw [HRD.out]
                      refine decide_eq_false fun e => hxy ?_
                      have h1 := HX.out
                      rw [e, HY.out] at h1
                      exact (Option.some.inj h1).symm
                    subst hRf
                    clear hxy hp hq htk
                    go_wp2_with fail
                    go_quiet (fail)
                    go_wp2
                    go_ret
                    exact ⟨rfl, bdn (bdn HB.out _) _⟩
                · have d1 : decide ((k : Int) < (L : Int)) = false := decide_eq_false (by omega)
                  have d1n : decide (k < L) = false := decide_eq_false hlt
                  have hek : m.kids = n.kids := by
                    have h1 := htk.out
                    rwa [List.take_of_length_le (by rw [← HLL.out.1]; omega), List.take_of_length_le (by rw [← HLL.out.2]; omega)] at h1
                  have hRt : R = true := by rw [HRD.out]; exact decide_eq_true hek
                  subst hRt
                  clear hek htk
                  go_wp2_with fail
                  go_ret
                  exact ⟨rfl, bdn HB.out _⟩
            · have s5 : ((L : Int) == (M : Int)) = false := beq_false_of_ne (by omega)
              have t5 : ((L : Int) != (M : Int)) = true := by rw [bne, s5]; rfl
              have hRf : R = false := by
                rw [HRES.out]
                unfold ndSame
                rw [decide_eq_false (p := m.kids = n.kids) (fun e => h5 (by rw [HLL.out.1, HLL.out.2, e])), Bool.and_false]
              subst hRf
              go_wp2_with fail
              go_ret
              exact ⟨rfl, HB.out⟩
          · have s4 : ((m.ref : Int) == (n.ref : Int)) = false := beq_false_of_ne (by omega)
            have t4 : ((m.ref : Int) != (n.ref : Int)) = true := by rw [bne, s4]; rfl
            have hRf : R = false := by rw [HRES.out]; unfold ndSame; simp [h4]
            subst hRf
            go_wp2_with fail
            go_ret
            exact ⟨rfl, HB.out⟩
        · have s3 : ((m.typ : Int) == (n.typ : Int)) = false := beq_false_of_ne (by omega)
          have t3 : ((m.typ : Int) != (n.typ : Int)) = true := by rw [bne, s3]; rfl
          have hRf : R = false := by rw [HRES.out]; unfold ndSame; simp [h3]
          subst hRf
          go_wp2_with fail
          go_ret
          exact ⟨rfl, HB.out⟩
      · have s2 : (m.num == n.num) = false := beq_false_of_ne h2
        have t2 : (m.num != n.num) = true := by rw [bne, s2]; rfl
        have hRf : R = false := by rw [HRES.out]; unfold ndSame; simp [h2]
        subst hRf
        go_wp2_with fail
        go_ret
        exact ⟨rfl, HB.out⟩
    · have s1 : (m.name.toList == n.name.toList) = false := str_ne_beq h1
      have t1 : (m.name.toList != n.name.toList) = true := by rw [bne, s1]; rfl
      have hRf : R = false := by rw [HRES.out]; unfold ndSame; simp [h1]
      subst hRf
      go_wp2_with fail
      go_ret
      exact ⟨rfl, HB.out⟩
  · have s0 : ((m.kind : Int) == (n.kind : Int)) = false := beq_false_of_ne (by omega)
    have t0 : ((m.kind : Int) != (n.kind : Int)) = true := by rw [bne, s0]; rfl
    have hRf : R = false := by rw [HRES.out]; unfold ndSame; simp [h0]
    subst hRf
    go_wp2_with fail
    go_ret
    exact ⟨rfl, HB.out⟩
end Go.Proofs.Ytnbncjebmlicgaa
