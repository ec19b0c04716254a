/- Walk: lay: nodes into an arena, and the document's list. -/
import Derived.Test.YtnbncjebmlicgaaArRputW
namespace Go.Proofs.Ytnbncjebmlicgaa
open Go.RowKit

structure LaySt (w wr : World) (g b k : Nat) (xv : Value) (l : List (Nat × Nd)) : Prop where
  ar : ArAt wr g b l
  rows : RowsX w.heap.size wr xv l
  len : l.length ≤ 1 + k
  bel : Below w.heap.size w wr
  low : w.heap.size ≤ g ∧ w.heap.size ≤ b
theorem LaySt.below {w wr w' : World} {g b k : Nat} {xv : Value} {l : List (Nat × Nd)} (h : LaySt w wr g b k xv l) (hb : Below wr.heap.size wr w') : LaySt w w' g b k xv l :=
  ⟨h.ar.below hb, h.rows.below hb, h.len, btr h.bel hb, h.low⟩
theorem ArAt.mapB {w : World} {g b : Nat} {l : List (Nat × Nd)} (h : ArAt w g b l) : ∃ es c, w.heap[b]? = some (.map es c) := by
  obtain ⟨vl, h1, -⟩ := h.ex
  exact h1.isMap
theorem putA_len {l : List (Nat × Nd)} (x : Nat) (n : Nd) : (putA l x n).length ≤ l.length + 1 := by
  unfold putA
  rw [length_insA]
  have : (delA l x).length ≤ l.length := List.length_filter_le _ _
  omega

set_option maxRecDepth 20000 in
set_option maxHeartbeats 3200000 in
theorem lay_any (v : Value) (rs : List (Nat × Nd)) (w : World) (hv : RowsIn w v rs) :
    Calls Try.prog 16 #[v] w fun e w' => ∃ g b xv l, e = .returned (.tuple #[.pointer (some ⟨g, 0, none⟩), xv]) ∧ LaySt w w' g b 30 xv l := by
  obtain ⟨a, c, rfl, hm, hc, -, hrow⟩ := id hv
  have HR := Lib.hid hrow
  obtain ⟨N, hN⟩ : ∃ L, L = rs.length := ⟨_, rfl⟩
  rw [← hN] at hm hc ⊢
  have HN := Lib.hid hN
  unfold maxLen at hm
  clear hv hrow hN
  go_enter Try.func16, Try.ntmps16
  go_wp2_with fail
  refine (arnew_any w).mono ?_
  rintro e w1 ⟨g, b, rfl, h1, hg1, hb1', hb1⟩
  have H1 := Lib.hid h1
  have HG := Lib.hid (And.intro hg1 hb1')
  have HB1 := Lib.hid hb1
  clear h1 hg1 hb1' hb1
  go_wp2_with fail
  have hb2 := bal (bre w1) (.cells #[.int .u64 1, .int .u8 1, .string ⟨#[]⟩, .int .i64 0, .int .u8 0, .int .u64 0, .slice none 0 0] 80)
  have hx2 : RowsX w.heap.size (w1.alloc (.cells #[.int .u64 1, .int .u8 1, .string ⟨#[]⟩, .int .i64 0, .int .u8 0, .int .u64 0, .slice none 0 0] 80)) (.slice (some ⟨w1.heap.size, 0, none⟩) 1 1) [(1, .prog)] :=
    ⟨[((1, .prog), .slice none 0 0)], rfl, ⟨rfl, .inr ⟨_, 1, _, rfl, HB1.out.size, heap_alloc_new w1 _, Nat.le_refl _, by simp [maxLen], rfl, rfl⟩⟩, fun q hq => by
      rw [List.mem_singleton.1 hq]
      exact ⟨OwnIds.nil _ _, Nd.prog_ok⟩⟩
  have hst : LaySt w (w1.alloc (.cells #[.int .u64 1, .int .u8 1, .string ⟨#[]⟩, .int .i64 0, .int .u8 0, .int .u64 0, .slice none 0 0] 80)) g b 0 (.slice (some ⟨w1.heap.size, 0, none⟩) 1 1) [(1, .prog)] :=
    ⟨H1.out.below hb2, hx2, by simp, btr HB1.out hb2, HG.out⟩
  have HST := Lib.hid hst
  clear hb2 hx2 hst H1 HB1
  go_loopw [5, 6, 7, 8, 15] (fun xv _ _ _ i wr => ∃ (k j : Nat) (l : List (Nat × Nd)), k ≤ N ∧ i = .int .i64 k ∧ j ≤ k ∧ j ≤ 30 ∧ Hid (LaySt w wr g b j xv l)) (fun _ _ _ _ i _ => N - (intOf i).toNat)
  case atStart => exact ⟨0, 0, _, by omega, rfl, by omega, by omega, HST⟩
  case round =>
    clear HST
    obtain ⟨k, j, l, hk, rfl, hjk, hj30, hst⟩ := hrel
    obtain ⟨xa, xc, rfl⟩ := hst.out.rows.slice
    by_cases hlt : k < N
    · have d1 : decide ((k : Int) < (N : Int)) = true := decide_eq_true (by omega)
      have d1n : decide (k < N) = true := decide_eq_true hlt
      have hkl : k < rs.length := by rw [← HN.out]; exact hlt
      rcases HR.out with h0 | ⟨gb, ob, rfl, hcell⟩
      · rw [h0] at hkl; simp at hkl
      obtain ⟨us, hul, hur, kv, hus, hkv, okw, h64⟩ := hcell k _ (List.getElem?_eq_getElem hkl)
      generalize rs[k] = p at *
      subst hus
      obtain ⟨pk, n⟩ := p
      obtain ⟨na, nc, rfl⟩ := hkv.slice
      have hbl := hst.out.bel
      have u0 := hur 0 _ rfl
      have u1 := hur 1 _ rfl
      have u2 := hur 2 _ rfl
      have u3 := hur 3 _ rfl
      have u4 := hur 4 _ rfl
      have u5 := hur 5 _ rfl
      have u6 := hur 6 _ rfl
      have hgb : gb < w.heap.size := block_lt_of_cell u0
      have v0 : wr.cell? ⟨gb, ob + k * 7 + 0, none⟩ = some (.int .u64 (pk : Int)) := (hbl.cell (p := ⟨gb, ob + k * 7 + 0, none⟩) hgb).trans u0
      have v1 : wr.cell? ⟨gb, ob + k * 7 + 1, none⟩ = some (.int .u8 (n.kind : Int)) := (hbl.cell (p := ⟨gb, ob + k * 7 + 1, none⟩) hgb).trans u1
      have v2 : wr.cell? ⟨gb, ob + k * 7 + 2, none⟩ = some (.string n.name) := (hbl.cell (p := ⟨gb, ob + k * 7 + 2, none⟩) hgb).trans u2
      have v3 : wr.cell? ⟨gb, ob + k * 7 + 3, none⟩ = some (.int .i64 n.num) := (hbl.cell (p := ⟨gb, ob + k * 7 + 3, none⟩) hgb).trans u3
      have v4 : wr.cell? ⟨gb, ob + k * 7 + 4, none⟩ = some (.int .u8 (n.typ : Int)) := (hbl.cell (p := ⟨gb, ob + k * 7 + 4, none⟩) hgb).trans u4
      have v5 : wr.cell? ⟨gb, ob + k * 7 + 5, none⟩ = some (.int .u64 (n.ref : Int)) := (hbl.cell (p := ⟨gb, ob + k * 7 + 5, none⟩) hgb).trans u5
      have v6 : wr.cell? ⟨gb, ob + k * 7 + 6, none⟩ = some (.slice na n.kids.length nc) := (hbl.cell (p := ⟨gb, ob + k * 7 + 6, none⟩) hgb).trans u6
      rw [Nat.add_zero] at v0
      have HKV : Hid (Ids wr (.slice na n.kids.length nc) n.kids) := Lib.hid (hkv.below hbl)
      have HOKW : Hid (n.Okw ∧ pk < 18446744073709551616) := Lib.hid ⟨okw, h64⟩
      obtain ⟨KL, hKL⟩ : ∃ q, q = n.kids.length := ⟨_, rfl⟩
      rw [← hKL] at v6
      have HKL := Lib.hid hKL
      clear hcell hul hur u0 u1 u2 u3 u4 u5 u6 hkv okw h64 hbl hgb hkl hKL
      go_upto_region 6 with fail
      have hbq := bal (bre wr) (.cells #[.int .u64 pk, .int .u8 n.kind, .string n.name, .int .i64 n.num, .int .u8 n.typ, .int .u64 n.ref, .slice na KL nc] 80)
      have hrq := heap_alloc_new wr (.cells #[.int .u64 pk, .int .u8 n.kind, .string n.name, .int .i64 n.num, .int .u8 n.typ, .int .u64 n.ref, .slice na KL nc] 80)
      generalize wr.alloc (.cells #[.int .u64 pk, .int .u8 n.kind, .string n.name, .int .i64 n.num, .int .u8 n.typ, .int .u64 n.ref, .slice na KL nc] 80) = wq at *
      obtain ⟨n7, hn7⟩ : ∃ q, q = wr.heap.size := ⟨_, rfl⟩
      rw [← hn7] at hrq ⊢
      have hRq : Row7 wq n7 (pk, n) (.slice na KL nc) := hrq
      obtain ⟨q0, q1, q2, q3, q4, q5, q6⟩ := hRq.cells
      replace q0 : wq.cell? ⟨n7, 0, none⟩ = some (.int .u64 (pk : Int)) := q0
      replace q1 : wq.cell? ⟨n7, 1, none⟩ = some (.int .u8 (n.kind : Int)) := q1
      replace q2 : wq.cell? ⟨n7, 2, none⟩ = some (.string n.name) := q2
      replace q3 : wq.cell? ⟨n7, 3, none⟩ = some (.int .i64 n.num) := q3
      replace q4 : wq.cell? ⟨n7, 4, none⟩ = some (.int .u8 (n.typ : Int)) := q4
      replace q5 : wq.cell? ⟨n7, 5, none⟩ = some (.int .u64 (n.ref : Int)) := q5
      replace q6 : wq.cell? ⟨n7, 6, none⟩ = some (.slice na KL nc) := q6
      have HRQ := Lib.hid hRq
      have HSTQ := Lib.hid (hst.out.below hbq)
      have HKQ := Lib.hid (HKV.out.below hbq)
      clear hbq hrq hRq hn7 hst HKV v0 v1 v2 v3 v4 v5 v6
      by_cases h30 : k < 30
      · have d2 : decide ((k : Int) < 30) = true := decide_eq_true (by omega)
        have d2n : decide (k < 30) = true := decide_eq_true h30
        by_cases hz : pk = 0
        · have s1 : ((pk : Int) == 0) = true := beq_iff_eq.2 (by omega)
          have s2 : ((pk : Int) != 0) = false := by rw [bne, s1]; rfl
          have s3 : (pk : Int) = 0 := by omega
          go_wp2_with fail
          go_roundw
          case rel => exact ⟨k + 1, j, l, by omega, by go_num, by omega, hj30, HSTQ⟩
          case measure => simp [intOf]; omega
        · have s1 : ((pk : Int) == 0) = false := beq_false_of_ne (by omega)
          have s2 : ((pk : Int) != 0) = true := by rw [bne, s1]; rfl
          have s3 : ¬ (pk : Int) = 0 := by omega
          have HZ := Lib.hid hz
          clear hz
          go_wp2_with fail
          rw [HKL.out]
          refine (few_any n na nc wq HKQ.out HOKW.out.1).mono ?_
          rintro e w3 ⟨v3, rfl, ho3, hb3⟩
          have HRQ3 := Lib.hid (HRQ.out.below hb3)
          have HST3 := Lib.hid (HSTQ.out.below hb3)
          obtain ⟨nd, hnd⟩ : ∃ q, q = fewN n := ⟨_, rfl⟩
          rw [← hnd] at ho3
          obtain ⟨kv3, rfl, hk3, ok3⟩ := ho3
          obtain ⟨fa, fc, rfl⟩ := hk3.slice
          obtain ⟨FL, hFL⟩ : ∃ q, q = nd.kids.length := ⟨_, rfl⟩
          unfold NdVal
          rw [← hFL] at hk3 ⊢
          have HK3 := Lib.hid (OwnIds.base hk3 (Nat.zero_le _))
          have HOK3 := Lib.hid ok3
          have HFL := Lib.hid hFL
          clear hb3 hnd hk3 ok3 hFL HRQ HSTQ HKQ q0 q1 q2 q3 q4 q5 q6
          go_upto_region 8 with fail
          have hb4 := bal (bre w3) (.cells #[.int .u8 nd.kind, .string nd.name, .int .i64 nd.num, .int .u8 nd.typ, .int .u64 nd.ref, .slice fa FL fc] 29)
          have hr4 := heap_alloc_new w3 (.cells #[.int .u8 nd.kind, .string nd.name, .int .i64 nd.num, .int .u8 nd.typ, .int .u64 nd.ref, .slice fa FL fc] 29)
          generalize w3.alloc (.cells #[.int .u8 nd.kind, .string nd.name, .int .i64 nd.num, .int .u8 nd.typ, .int .u64 nd.ref, .slice fa FL fc] 29) = w4 at *
          obtain ⟨n8, hn8⟩ : ∃ q, q = w3.heap.size := ⟨_, rfl⟩
          rw [← hn8] at hr4 ⊢
          have hR4 : Row6 w4 n8 nd (.slice fa FL fc) := hr4
          have hRQ4 := HRQ3.out.below hb4
          have y0 : w4.cell? ⟨n7, 0, none⟩ = some (.int .u64 (pk : Int)) := hRQ4.cells.1
          have z0 := hR4.c0
          have z1 := hR4.c1
          have z2 := hR4.c2
          have z3 := hR4.c3
          have z4 := hR4.c4
          have z5 := hR4.c5
          have HR4 := Lib.hid hR4
          have HRQ4 := Lib.hid hRQ4
          have HST4 := Lib.hid (HST3.out.below hb4)
          have HK4 := Lib.hid (HK3.out.below hb4)
          clear hb4 hr4 hR4 hRQ4 hn8 HRQ3 HST3 HK3
          go_wp2_with fail
          refine (arput_ok g b l pk _ nd w4 HST4.out.ar ⟨_, rfl, HK4.out.ids, HOK3.out⟩ HOKW.out.2 HZ.out (.inr (by have := HST4.out.len; omega))).mono ?_
          rintro e w5 ⟨rfl, ha5, ho5⟩
          obtain ⟨mes, mc, hmb⟩ := HST4.out.ar.mapB
          have hno : ∀ T, T ≠ 0 → ∀ q, q = b → ∀ cs fr, w4.heap[q]? ≠ some (.cells cs T fr) := fun T _ q hq cs fr e => by subst hq; rw [hmb] at e; cases e
          have hnoI : ∀ q, q = b → ∀ cs fr, w4.heap[q]? ≠ some (.cells cs 26 fr) := fun q hq cs fr e => by subst hq; rw [hmb] at e; cases e
          have hnoR : ∀ q, q = b → ∀ cs fr, w4.heap[q]? ≠ some (.cells cs 80 fr) := fun q hq cs fr e => by subst hq; rw [hmb] at e; cases e
          have hx5 := HST4.out.rows.only ho5 hnoI hnoR
          have hk5 := HK4.out.only ho5 hnoI
          have hne7 : ¬ n7 = b := fun e => by
            have h9 := HRQ4.out
            unfold Row7 at h9
            rw [e, hmb] at h9; cases h9
          have hne8 : ¬ n8 = b := fun e => by
            have h9 := HR4.out
            unfold Row6 at h9
            rw [e, hmb] at h9; cases h9
          have hrq5 : Row7 w5 n7 (pk, n) (.slice na KL nc) := (ho5.block n7 HRQ4.out.lt hne7).trans HRQ4.out
          have hr5 := HR4.out.only ho5 hne8
          have hb5 : Below w.heap.size w w5 := HST4.out.bel.trans (ho5.below w.heap.size HST4.out.bel.size fun i hi e => by have := HST4.out.low.2; omega)
          have HA5 := Lib.hid ha5
          have HX5 := Lib.hid hx5
          have HK5 := Lib.hid hk5
          have HB5 := Lib.hid hb5
          have HLEN := Lib.hid HST4.out.len
          have HLOW := Lib.hid HST4.out.low
          have HASC := Lib.hid HST4.out.ar.asc
          have y0 : w5.cell? ⟨n7, 0, none⟩ = some (.int .u64 (pk : Int)) := hrq5.cells.1
          have z0 := hr5.c0
          have z1 := hr5.c1
          have z2 := hr5.c2
          have z3 := hr5.c3
          have z4 := hr5.c4
          have z5 := hr5.c5
          clear ha5 ho5 hmb hno hnoI hnoR hx5 hk5 hne7 hne8 hrq5 hr5 hb5 HR4 HRQ4 HST4 HK4
          go_wp2_with fail
          rw [HFL.out]
          refine (rput_any _ l pk nd fa fc w5 (HX5.out.base (Nat.zero_le _)) HASC.out (by have := HLEN.out; omega) (by rw [← HFL.out]; exact HK5.out) HOK3.out).mono ?_
          rintro e w6 ⟨v6, rfl, hx6, hb6⟩
          obtain ⟨xa6, xc6, rfl⟩ := hx6.slice
          have hst6 : LaySt w w6 g b (j + 1) (.slice xa6 (putA l pk nd).length xc6) (putA l pk nd) := ⟨HA5.out.below hb6, hx6.base HB5.out.size, by have := putA_len (l := l) pk nd; have := HLEN.out; omega, btr HB5.out hb6, HLOW.out⟩
          have HST6 := Lib.hid hst6
          clear hx6 hb6 hst6 HA5 HX5 HK5 HB5 y0 z0 z1 z2 z3 z4 z5
          go_wp2_with fail
          go_roundw
          case rel => exact ⟨k + 1, j + 1, putA l pk nd, by omega, by go_num, by omega, by omega, HST6⟩
          case measure => simp [intOf]; omega
      · have d2 : decide ((k : Int) < 30) = false := decide_eq_false (by omega)
        have d2n : decide (k < 30) = false := decide_eq_false h30
        go_wp2_with fail
        go_roundw
        case rel => exact ⟨k + 1, j, l, by omega, by go_num, by omega, hj30, HSTQ⟩
        case measure => simp [intOf]; omega
    · have d1 : decide ((k : Int) < (N : Int)) = false := decide_eq_false (by omega)
      have d1n : decide (k < N) = false := decide_eq_false hlt
      go_wp2_with fail
      go_ret2
      exact ⟨g, b, _, l, rfl, ⟨hst.out.ar, hst.out.rows, by have := hst.out.len; omega, hst.out.bel, hst.out.low⟩⟩
end Go.Proofs.Ytnbncjebmlicgaa
