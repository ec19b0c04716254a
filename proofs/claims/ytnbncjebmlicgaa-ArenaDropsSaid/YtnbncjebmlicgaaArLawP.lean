/- Walk: the law ArenaPuts. -/
import Derived.Test.YtnbncjebmlicgaaArRowsW
import Derived.Test.YtnbncjebmlicgaaPreD
import Derived.Test.YtnbncjebmlicgaaArRequal
import Derived.Test.YtnbncjebmlicgaaArRsame
namespace Go.Proofs.Ytnbncjebmlicgaa
open Go.RowKit

theorem RowsX.mapOnly {base : Nat} {w w' : World} {v : Value} {l m : List (Nat × Nd)} {g b : Nat} (h : RowsX base w v l) (har : ArAt w g b m) (ho : Only w w' (fun q => q = b)) : RowsX base w' v l := by
  obtain ⟨es, c, hb⟩ := har.mapB
  exact h.only ho (fun k hk cs fr e => by subst hk; rw [hb] at e; cases e) fun k hk cs fr e => by subst hk; rw [hb] at e; cases e
theorem OwnNd.mapOnly {base : Nat} {w w' : World} {v : Value} {n : Nd} {m : List (Nat × Nd)} {g b : Nat} (h : OwnNd base w v n) (har : ArAt w g b m) (ho : Only w w' (fun q => q = b)) : OwnNd base w' v n := by
  obtain ⟨es, c, hb⟩ := har.mapB
  exact h.only ho fun k hk cs fr e => by subst hk; rw [hb] at e; cases e
theorem Row6.mapOnly {w w' : World} {q : Nat} {n : Nd} {kv : Value} {m : List (Nat × Nd)} {g b : Nat} (h : Row6 w q n kv) (har : ArAt w g b m) (ho : Only w w' (fun q => q = b)) : Row6 w' q n kv := by
  obtain ⟨es, c, hb⟩ := har.mapB
  exact h.only ho fun hk => by subst hk; have h1 : w.heap[q]? = _ := h; rw [hb] at h1; cases h1
theorem getA_putA {l : List (Nat × Nd)} (x : Nat) (n : Nd) : getA (putA l x n) x = some n := getA_put_same ..

set_option linter.unusedSimpArgs false in
set_option maxRecDepth 20000 in
set_option maxHeartbeats 3200000 in
theorem arputs_any (v1 : Value) (r1 : List (Nat × Nd)) (x : Nat) (n : Nd) (a : Option Addr) (c : Nat) (w : World) (h1 : RowsIn w v1 r1) (hx : x < 18446744073709551616) (hk : Ids w (.slice a n.kids.length c) n.kids) (ok : n.Okw) :
    Calls Try.prog 4 #[v1, .int .u64 x, NdVal n (.slice a n.kids.length c)] w fun e w' => e = .returned (.bool true) ∧ Below w.heap.size w w' := by
  have H1 := Lib.hid h1
  obtain ⟨a1, c1, rfl, -⟩ := id h1
  obtain ⟨KL, hKL⟩ : ∃ L, L = n.kids.length := ⟨_, rfl⟩
  rw [← hKL] at hk ⊢
  have HKL := Lib.hid hKL
  have HK := Lib.hid hk
  have HOK := Lib.hid ok
  unfold NdVal
  clear h1 hk ok hKL
  go_enter Try.func4, Try.ntmps4
  go_upto_region 1 with fail
  have hb0 := bal (bre w) (.cells #[.int .u8 n.kind, .string n.name, .int .i64 n.num, .int .u8 n.typ, .int .u64 n.ref, .slice a KL c] 29)
  have hr0 := heap_alloc_new w (.cells #[.int .u8 n.kind, .string n.name, .int .i64 n.num, .int .u8 n.typ, .int .u64 n.ref, .slice a KL c] 29)
  generalize w.alloc (.cells #[.int .u8 n.kind, .string n.name, .int .i64 n.num, .int .u8 n.typ, .int .u64 n.ref, .slice a KL c] 29) = W at *
  obtain ⟨n5, hn5⟩ : ∃ q, q = w.heap.size := ⟨_, rfl⟩
  rw [← hn5] at hr0 ⊢
  have hR0 : Row6 W n5 n (.slice a KL c) := hr0
  have HR0 := Lib.hid hR0
  have HB0 := Lib.hid hb0
  have HN5 : Hid (w.heap.size ≤ n5) := Lib.hid (by omega)
  clear hb0 hr0 hR0 hn5
  go_wp2_with fail
  refine (awake_any W).mono ?_
  rintro e w1 ⟨rfl, hb1⟩
  have HB1 := Lib.hid (btr HB0.out hb1)
  have HR1 := Lib.hid (HR0.out.below hb1)
  clear hb1 HR0
  go_wp2_with fail
  refine (lay_any _ r1 w1 (H1.out.below HB1.out)).mono ?_
  rintro e w2 ⟨g, b, xv, l, rfl, hl2⟩
  have HB2 := Lib.hid (btr HB1.out hl2.bel)
  have HR2 := Lib.hid (HR1.out.below hl2.bel)
  have HL2 := Lib.hid hl2
  have hr := HR2.out
  have y0 := hr.c0
  have y1 := hr.c1
  have y2 := hr.c2
  have y3 := hr.c3
  have y4 := hr.c4
  have y5 := hr.c5
  have HLT : Hid (n5 < w1.heap.size) := Lib.hid HR1.out.lt
  have HBL : Hid (w.heap.size ≤ b) := Lib.hid (Nat.le_trans HB1.out.size hl2.low.2)
  clear hl2 HR1 HB1 H1 hr
  go_wp2_with fail
  have hf := few_any n a c w2 (by rw [← HKL.out]; exact HK.out.below HB2.out) HOK.out
  unfold NdVal at hf
  rw [← HKL.out] at hf
  refine hf.mono ?_
  rintro e w3 ⟨v3, rfl, ho3, hb3⟩
  have HR3 := Lib.hid (HR2.out.below hb3)
  have HB3 := Lib.hid (btr HB2.out hb3)
  have HL3 := Lib.hid (HL2.out.below hb3)
  obtain ⟨kv3, rfl, hk3, ok3⟩ := ho3
  obtain ⟨m, hm⟩ : ∃ m, m = fewN n := ⟨_, rfl⟩
  rw [← hm] at hk3 ok3 ⊢
  obtain ⟨a3, c3, rfl⟩ := hk3.slice
  obtain ⟨ML, hML⟩ : ∃ L, L = m.kids.length := ⟨_, rfl⟩
  rw [← hML] at hk3 ⊢
  have HML := Lib.hid hML
  have HK3 := Lib.hid hk3
  have HOK3 := Lib.hid ok3
  unfold NdVal
  have hr := HR3.out
  have fz := hr.fz
  clear hf y0 y1 y2 y3 y4 y5 hm hML hk3 ok3 hb3 HR2 HL2 HB2 HK HOK HKL
  have y0 := hr.c0
  have y1 := hr.c1
  have y2 := hr.c2
  have y3 := hr.c3
  have y4 := hr.c4
  have y5 := hr.c5
  clear hr
  go_upto_region 5 with fail
  have hr4 := HR3.out.put m (.slice a3 ML c3)
  have hb4 := put6_below HB3.out HN5.out m (.slice a3 ML c3)
  have hon4 := put6_only w3 n5 m (.slice a3 ML c3)
  have hnid : ∀ k, k = n5 → ∀ cs fr, w3.heap[k]? ≠ some (.cells cs 26 fr) := fun k hk cs fr e => by subst hk; have h1 : w3.heap[k]? = _ := HR3.out; rw [h1] at e; cases e
  have hnrw : ∀ k, k = n5 → ∀ cs fr, w3.heap[k]? ≠ some (.cells cs 80 fr) := fun k hk cs fr e => by subst hk; have h1 : w3.heap[k]? = _ := HR3.out; rw [h1] at e; cases e
  have hlow := HL3.out.low
  have hlt5 := HLT.out
  have har4 := HL3.out.ar.only hon4 (fun e => by omega) (fun e => by omega) hnid
  have hrw4 := HL3.out.rows.only hon4 hnid hnrw
  have hk4 := HK3.out.only hon4 hnid
  have hle : l.length ≤ 31 := HL3.out.len
  have HLA := Lib.hid HL3.out.ar.asc
  generalize (((((w3.setCell ⟨n5, 0, none⟩ (.int .u8 m.kind)).setCell ⟨n5, 1, none⟩ (.string m.name)).setCell ⟨n5, 2, none⟩ (.int .i64 m.num)).setCell ⟨n5, 3, none⟩ (.int .u8 m.typ)).setCell ⟨n5, 4, none⟩ (.int .u64 m.ref)).setCell ⟨n5, 5, none⟩ (.slice a3 ML c3) = w4 at *
  have HR4 := Lib.hid hr4
  have HB4 := Lib.hid hb4
  have HA4 := Lib.hid har4
  have HX4 := Lib.hid hrw4
  have HK4 := Lib.hid hk4
  clear hr4 hb4 hon4 hnid hnrw hlow hlt5 har4 hrw4 hk4 HR3 HB3 HL3 HK3 y0 y1 y2 y3 y4 y5 fz
  go_wp2_with fail
  refine (arrows_any g b l w4 HA4.out).mono ?_
  rintro e w5 ⟨v9, rfl, hx9, hb5⟩
  have HX9 := Lib.hid hx9
  have HB5 := Lib.hid (btr HB4.out hb5)
  have HA5 := Lib.hid (HA4.out.below hb5)
  have HX5 := Lib.hid (HX4.out.below hb5)
  have HK5 := Lib.hid (HK4.out.below hb5)
  have HR5 := Lib.hid (HR4.out.below hb5)
  clear hx9 hb5 HB4 HA4 HX4 HK4 HR4
  obtain ⟨a9, c9, rfl⟩ := HX9.out.slice
  obtain ⟨xa, xc, rfl⟩ := HX5.out.slice
  have hr := HR5.out
  have y0 := hr.c0
  have y1 := hr.c1
  have y2 := hr.c2
  have y3 := hr.c3
  have y4 := hr.c4
  have y5 := hr.c5
  have hnd : NdAt w5 (.agg #[.int .u8 m.kind, .string m.name, .int .i64 m.num, .int .u8 m.typ, .int .u64 m.ref, .slice a3 ML c3]) m := ⟨_, rfl, HK5.out.ids, HOK3.out⟩
  have HND := Lib.hid hnd
  clear hr hnd
  by_cases hx0 : x = 0
  · subst hx0
    go_wp2_with fail
    refine (arput_zero g b l _ m w5 HA5.out HND.out).mono ?_
    rintro e w6 ⟨rfl, hb6⟩
    have HB6 := Lib.hid (btr HB5.out hb6)
    have HA6 := Lib.hid (HA5.out.below hb6)
    have HX6 := Lib.hid (HX9.out.below hb6)
    clear hb6 HB5 HA5 HX9 y0 y1 y2 y3 y4 y5 HX5 HK5 HR5 HND
    go_wp2_with fail
    refine (arrows_any g b l w6 HA6.out).mono ?_
    rintro e w7 ⟨v7, rfl, hx7, hb7⟩
    have HB7 := Lib.hid (btr HB6.out hb7)
    have HX7 := Lib.hid hx7
    have HX8 := Lib.hid (HX6.out.below hb7)
    clear hx7 hb7 HB6 HA6 HX6
    go_wp2_with fail
    refine (requal_any v7 _ l l true ⟨fun _ => rfl, fun _ => rfl⟩ w7 (HX7.out.base (Nat.zero_le _)) (HX8.out.base (Nat.zero_le _)) (by omega)).mono ?_
    rintro e w8 ⟨rfl, hb8⟩
    have HB8 := Lib.hid (btr HB7.out hb8)
    clear hb8
    go_wp2_with fail
    go_ret
    exact ⟨rfl, HB8.out⟩
  · have e1 : ((x : Int) == 0) = false := beq_false_of_ne (by omega)
    have e2 : decide ((x : Int) = 0) = false := decide_eq_false (by omega)
    have e3 : (x == 0) = false := beq_false_of_ne hx0
    have e4 : decide (x = 0) = false := decide_eq_false hx0
    have HX0 := Lib.hid hx0
    clear hx0
    go_wp2_with fail
    refine (arput_ok g b l x _ m w5 HA5.out HND.out hx HX0.out (.inr (by omega))).mono ?_
    rintro e w6 ⟨rfl, ha6, ho6⟩
    have hb6 : Below w.heap.size w w6 := HB5.out.trans (ho6.below _ HB5.out.size fun i hi e => by have := HBL.out; have e2 : i = b := e; omega)
    have HX6 := Lib.hid (HX5.out.mapOnly HA5.out ho6)
    have HR6 := Lib.hid (HR5.out.mapOnly HA5.out ho6)
    have hnd5 : OwnNd w2.heap.size w5 (.agg #[.int .u8 m.kind, .string m.name, .int .i64 m.num, .int .u8 m.typ, .int .u64 m.ref, .slice a3 ML c3]) m := ⟨_, rfl, HK5.out, HOK3.out⟩
    have HND6 := Lib.hid (hnd5.mapOnly HA5.out ho6)
    have HB6 := Lib.hid hb6
    obtain ⟨l2, hl2⟩ : ∃ l2, l2 = putA l x m := ⟨_, rfl⟩
    rw [← hl2] at ha6
    have HA6 := Lib.hid ha6
    have hat : atN l2 x = m := by unfold atN; rw [hl2, getA_putA]; rfl
    have hsm : (getA l2 x).isSome = true := by rw [hl2, getA_putA]; rfl
    have hl2n : l2.length ≤ 32 := by rw [hl2]; have := putA_len (l := l) x m; omega
    have HL2 := Lib.hid hl2
    have HAT := Lib.hid hat
    have HSM := Lib.hid hsm
    clear hb6 hnd5 hl2 ha6 hat hsm ho6 HX5 HX9 HR5 HK5 HA5 HB5 HND y0 y1 y2 y3 y4 y5
    go_wp2_with fail
    refine (arget_any g b l2 x w6 HA6.out hx).mono ?_
    rintro e w7 ⟨v7, rfl, ho7, hb7⟩
    rw [HAT.out] at ho7
    rw [HSM.out]
    obtain ⟨kv7, rfl, hk7, ok7⟩ := ho7
    obtain ⟨a7, c7, rfl⟩ := hk7.slice
    rw [← HML.out] at hk7 ⊢
    unfold NdVal
    have HK7 := Lib.hid hk7
    have HB7 := Lib.hid (btr HB6.out hb7)
    have HA7 := Lib.hid (HA6.out.below hb7)
    have HX7 := Lib.hid (HX6.out.below hb7)
    have HR7 := Lib.hid (HR6.out.below hb7)
    have HND7 := Lib.hid (HND6.out.below hb7)
    clear hk7 hb7 HB6 HA6 HX6 HR6 HND6
    go_upto_region 10 with fail
    have hb8 := bal (bre w7) (.cells #[.int .u8 m.kind, .string m.name, .int .i64 m.num, .int .u8 m.typ, .int .u64 m.ref, .slice a7 ML c7] 29)
    have hr8 := heap_alloc_new w7 (.cells #[.int .u8 m.kind, .string m.name, .int .i64 m.num, .int .u8 m.typ, .int .u64 m.ref, .slice a7 ML c7] 29)
    generalize w7.alloc (.cells #[.int .u8 m.kind, .string m.name, .int .i64 m.num, .int .u8 m.typ, .int .u64 m.ref, .slice a7 ML c7] 29) = w8 at *
    obtain ⟨n11, hn11⟩ : ∃ q, q = w7.heap.size := ⟨_, rfl⟩
    rw [← hn11] at hr8 ⊢
    have hR8 : Row6 w8 n11 m (.slice a7 ML c7) := hr8
    have HR8 := Lib.hid hR8
    have HB8 := Lib.hid (btr HB7.out hb8)
    have HA8 := Lib.hid (HA7.out.below hb8)
    have HX8 := Lib.hid (HX7.out.below hb8)
    have HR58 := Lib.hid (HR7.out.below hb8)
    have HNO8 := Lib.hid (HND7.out.below hb8)
    have HND8 : Hid (NdAt w8 (.agg #[.int .u8 m.kind, .string m.name, .int .i64 m.num, .int .u8 m.typ, .int .u64 m.ref, .slice a7 ML c7]) m) := Lib.hid ⟨_, rfl, (HK7.out.below hb8).ids, HOK3.out⟩
    have HND5 : Hid (NdAt w8 (.agg #[.int .u8 m.kind, .string m.name, .int .i64 m.num, .int .u8 m.typ, .int .u64 m.ref, .slice a3 ML c3]) m) := Lib.hid HNO8.out.at
    have HSB : Hid (∀ w', Below w8.heap.size w8 w' → (w'.cell? ⟨n11, 0, none⟩ = some (.int .u8 m.kind) ∧ w'.cell? ⟨n11, 1, none⟩ = some (.string m.name) ∧ w'.cell? ⟨n11, 2, none⟩ = some (.int .i64 m.num) ∧ w'.cell? ⟨n11, 3, none⟩ = some (.int .u8 m.typ) ∧ w'.cell? ⟨n11, 4, none⟩ = some (.int .u64 m.ref) ∧ w'.cell? ⟨n11, 5, none⟩ = some (.slice a7 ML c7) ∧ w'.cell? ⟨n5, 0, none⟩ = some (.int .u8 m.kind) ∧ w'.cell? ⟨n5, 1, none⟩ = some (.string m.name) ∧ w'.cell? ⟨n5, 2, none⟩ = some (.int .i64 m.num) ∧ w'.cell? ⟨n5, 3, none⟩ = some (.int .u8 m.typ) ∧ w'.cell? ⟨n5, 4, none⟩ = some (.int .u64 m.ref) ∧ w'.cell? ⟨n5, 5, none⟩ = some (.slice a3 ML c3))) := Lib.hid fun w' hb => by
      have q := HR8.out.below hb
      have r := HR58.out.below hb
      exact ⟨q.c0, q.c1, q.c2, q.c3, q.c4, q.c5, r.c0, r.c1, r.c2, r.c3, r.c4, r.c5⟩
    clear hb8 hr8 hn11 hR8 HB7 HA7 HX7 HR7 HND7 HK7
    refine region_anyZ (z := 25) (S := fun w' => (w'.cell? ⟨n11, 0, none⟩ = some (.int .u8 m.kind) ∧ w'.cell? ⟨n11, 1, none⟩ = some (.string m.name) ∧ w'.cell? ⟨n11, 2, none⟩ = some (.int .i64 m.num) ∧ w'.cell? ⟨n11, 3, none⟩ = some (.int .u8 m.typ) ∧ w'.cell? ⟨n11, 4, none⟩ = some (.int .u64 m.ref) ∧ w'.cell? ⟨n11, 5, none⟩ = some (.slice a7 ML c7) ∧ w'.cell? ⟨n5, 0, none⟩ = some (.int .u8 m.kind) ∧ w'.cell? ⟨n5, 1, none⟩ = some (.string m.name) ∧ w'.cell? ⟨n5, 2, none⟩ = some (.int .i64 m.num) ∧ w'.cell? ⟨n5, 3, none⟩ = some (.int .u8 m.typ) ∧ w'.cell? ⟨n5, 4, none⟩ = some (.int .u64 m.ref) ∧ w'.cell? ⟨n5, 5, none⟩ = some (.slice a3 ML c3))) (by kernel_rfl) ?_
    refine anyZ_begin (fun hcl0 => ?_)
    refine anyZ_held (by exact HSB.out _ (bdr (bre w8))) (fun hHeld => ?_)
    -- 0: Op.move (Operand.tmp 10)
    refine' anyZ_pure (i := 0) (v := _) rfl (by rfl) (by kernel_rfl) (by kernel_rfl) (by kernel_rfl) hcl0 (fun _ _ _ h => h) (Or.inl ⟨by rfl, fun w _ => ?hz1⟩) (fun _ => hHeld) (fun hcl1 => ?rz1)
    case hz1 => (simp only [List.getElem_toArray, List.getElem_cons_zero]; first | (go_simp; with_reducible rfl) | (go_simp; done) | rfl)
    simp only [List.getElem_toArray, List.getElem_cons_zero, Act.put, List.setIfInBounds_toArray, List.set_cons_zero, List.set_cons_succ]
    -- 1: Op.binOp BinOp.eql 30 (Operand.tmp 44) (Operand.const (Value
    refine' anyZ_pure (i := 1) (v := _) rfl (by rfl) (by kernel_rfl) (by kernel_rfl) (by kernel_rfl) hcl1 (fun _ _ _ h => h) (Or.inl ⟨by rfl, fun w _ => ?hz2⟩) (fun _ => hHeld) (fun hcl2 => ?rz2)
    case hz2 => (simp only [List.getElem_toArray, List.getElem_cons_succ, List.getElem_cons_zero]; first | (go_simp; with_reducible rfl) | (go_simp; done) | rfl)
    simp only [List.getElem_toArray, List.getElem_cons_succ, List.getElem_cons_zero, Act.put, List.setIfInBounds_toArray, List.set_cons_zero, List.set_cons_succ]
    -- 2: Op.move (Operand.tmp 45)
    refine' anyZ_pure (i := 2) (v := _) rfl (by rfl) (by kernel_rfl) (by kernel_rfl) (by kernel_rfl) hcl2 (fun _ _ _ h => h) (Or.inl ⟨by rfl, fun w _ => ?hz3⟩) (fun _ => hHeld) (fun hcl3 => ?rz3)
    case hz3 => (simp only [List.getElem_toArray, List.getElem_cons_succ, List.getElem_cons_zero]; first | (go_simp; with_reducible rfl) | (go_simp; done) | rfl)
    simp only [List.getElem_toArray, List.getElem_cons_succ, List.getElem_cons_zero, Act.put, List.setIfInBounds_toArray, List.set_cons_zero, List.set_cons_succ]
    -- 3: Op.move (Operand.tmp 12)
    refine' anyZ_pure (i := 3) (v := _) rfl (by rfl) (by kernel_rfl) (by kernel_rfl) (by kernel_rfl) hcl3 (fun _ _ _ h => h) (Or.inl ⟨by rfl, fun w _ => ?hz4⟩) (fun _ => hHeld) (fun hcl4 => ?rz4)
    case hz4 => (simp only [List.getElem_toArray, List.getElem_cons_succ, List.getElem_cons_zero]; first | (go_simp; with_reducible rfl) | (go_simp; done) | rfl)
    simp only [List.getElem_toArray, List.getElem_cons_succ, List.getElem_cons_zero, Act.put, List.setIfInBounds_toArray, List.set_cons_zero, List.set_cons_succ]
    -- 4: Op.pick (Operand.tmp 46) (Operand.tmp 47) (Operand.const (Va
    refine' anyZ_pure (i := 4) (v := _) rfl (by rfl) (by kernel_rfl) (by kernel_rfl) (by kernel_rfl) hcl4 (fun _ _ _ h => h) (Or.inl ⟨by rfl, fun w _ => ?hz5⟩) (fun _ => hHeld) (fun hcl5 => ?rz5)
    case hz5 => (simp only [List.getElem_toArray, List.getElem_cons_succ, List.getElem_cons_zero]; first | (go_simp; with_reducible rfl) | (go_simp; done) | rfl)
    simp only [List.getElem_toArray, List.getElem_cons_succ, List.getElem_cons_zero, Act.put, List.setIfInBounds_toArray, List.set_cons_zero, List.set_cons_succ]
    -- 5: Op.move (Operand.tmp 48)
    refine' anyZ_pure (i := 5) (v := _) rfl (by rfl) (by kernel_rfl) (by kernel_rfl) (by kernel_rfl) hcl5 (fun _ _ _ h => h) (Or.inl ⟨by rfl, fun w _ => ?hz6⟩) (fun _ => hHeld) (fun hcl6 => ?rz6)
    case hz6 => (simp only [List.getElem_toArray, List.getElem_cons_succ, List.getElem_cons_zero]; first | (go_simp; with_reducible rfl) | (go_simp; done) | rfl)
    simp only [List.getElem_toArray, List.getElem_cons_succ, List.getElem_cons_zero, Act.put, List.setIfInBounds_toArray, List.set_cons_zero, List.set_cons_succ]
    -- 6: Op.load 29 (Operand.tmp 11)
    refine' anyZ_take (i := 6) (v := _) rfl (by rfl) (by kernel_rfl) (by kernel_rfl) (by kernel_rfl) hcl6 24 (by kernel_rfl) (by kernel_rfl) (fun _ _ _ h => h) (Or.inl ⟨by rfl, fun w hSw => ?hz7⟩) hHeld (fun hcl7 => ?rz7)
    case hz7 => (simp only [List.getElem_toArray, List.getElem_cons_succ, List.getElem_cons_zero]; obtain ⟨hS1, hS2, hS3, hS4, hS5, hS6, hS7, hS8, hS9, hS10, hS11, hS12⟩ := hSw; first | (go_simp; with_reducible rfl) | (go_simp; done) | rfl)
    simp only [List.getElem_toArray, List.getElem_cons_succ, List.getElem_cons_zero, Act.put, List.setIfInBounds_toArray, List.set_cons_zero, List.set_cons_succ]
    -- 7: Op.load 29 (Operand.tmp 5)
    refine' anyZ_take (i := 7) (v := _) rfl (by rfl) (by kernel_rfl) (by kernel_rfl) (by kernel_rfl) hcl7 24 (by kernel_rfl) (by kernel_rfl) (fun _ _ _ h => h) (Or.inl ⟨by rfl, fun w hSw => ?hz8⟩) hHeld (fun hcl8 => ?rz8)
    case hz8 => (simp only [List.getElem_toArray, List.getElem_cons_succ, List.getElem_cons_zero]; obtain ⟨hS1, hS2, hS3, hS4, hS5, hS6, hS7, hS8, hS9, hS10, hS11, hS12⟩ := hSw; first | (go_simp; with_reducible rfl) | (go_simp; done) | rfl)
    simp only [List.getElem_toArray, List.getElem_cons_succ, List.getElem_cons_zero, Act.put, List.setIfInBounds_toArray, List.set_cons_zero, List.set_cons_succ]
    -- 8: Op.call { callee := Callee.value (Operand.func 21), args := 
    refine anyZ_oneG (i := 8) hcl8 (by kernel_rfl) (by simp only [List.getElem?_toArray, List.getElem?_cons_succ, List.getElem?_cons_zero]; rfl) (by rfl) (fun hcl9 K hK => ?_)
    go_simp
    refine (rsame_any _ _ m m _ (HND8.out.below (bdr (bre w8))) (HND5.out.below (bdr (bre w8)))).mono ?_
    rintro e w9 ⟨rfl, hb9⟩
    rw [(ndSame_iff m m).2 rfl]
    have HB9 := Lib.hid (btr (bdr (bre w8)) hb9)
    clear hb9
    refine hK _ _ (fun _ => ?_) ?_
    · exact HSB.out _ HB9.out
    clear hK K hHeld
    have hHeld := HSB.out _ HB9.out
    try simp only [Act.put, List.setIfInBounds_toArray, List.set_cons_zero, List.set_cons_succ]
    -- 9: Op.pick (Operand.tmp 49) (Operand.tmp 52) (Operand.const (Va
    refine' anyZ_pure (i := 9) (v := _) rfl (by rfl) (by kernel_rfl) (by kernel_rfl) (by kernel_rfl) hcl9 (fun _ _ _ h => h) (Or.inl ⟨by rfl, fun w _ => ?hz10⟩) (fun _ => hHeld) (fun hcl10 => ?rz10)
    case hz10 => (simp only [List.getElem_toArray, List.getElem_cons_succ, List.getElem_cons_zero]; first | (go_simp; with_reducible rfl) | (go_simp; done) | rfl)
    simp only [List.getElem_toArray, List.getElem_cons_succ, List.getElem_cons_zero, Act.put, List.setIfInBounds_toArray, List.set_cons_zero, List.set_cons_succ]
    -- 10: Op.move (Operand.tmp 53)
    refine' anyZ_pure (i := 10) (v := _) rfl (by rfl) (by kernel_rfl) (by kernel_rfl) (by kernel_rfl) hcl10 (fun _ _ _ h => h) (Or.inl ⟨by rfl, fun w _ => ?hz11⟩) (fun _ => hHeld) (fun hcl11 => ?rz11)
    case hz11 => (simp only [List.getElem_toArray, List.getElem_cons_succ, List.getElem_cons_zero]; first | (go_simp; with_reducible rfl) | (go_simp; done) | rfl)
    simp only [List.getElem_toArray, List.getElem_cons_succ, List.getElem_cons_zero, Act.put, List.setIfInBounds_toArray, List.set_cons_zero, List.set_cons_succ]
    -- 11: Op.move (Operand.tmp 7)
    refine' anyZ_pure (i := 11) (v := _) rfl (by rfl) (by kernel_rfl) (by kernel_rfl) (by kernel_rfl) hcl11 (fun _ _ _ h => h) (Or.inl ⟨by rfl, fun w _ => ?hz12⟩) (fun _ => hHeld) (fun hcl12 => ?rz12)
    case hz12 => (simp only [List.getElem_toArray, List.getElem_cons_succ, List.getElem_cons_zero]; first | (go_simp; with_reducible rfl) | (go_simp; done) | rfl)
    simp only [List.getElem_toArray, List.getElem_cons_succ, List.getElem_cons_zero, Act.put, List.setIfInBounds_toArray, List.set_cons_zero, List.set_cons_succ]
    -- 13: Op.move (Operand.tmp 8)
    refine' anyZ_pure (i := 13) (v := _) rfl (by rfl) (by kernel_rfl) (by kernel_rfl) (by kernel_rfl) hcl12 (fun _ _ _ h => h) (Or.inl ⟨by rfl, fun w _ => ?hz13⟩) (fun _ => hHeld) (fun hcl13 => ?rz13)
    case hz13 => (simp only [List.getElem_toArray, List.getElem_cons_succ, List.getElem_cons_zero]; first | (go_simp; with_reducible rfl) | (go_simp; done) | rfl)
    simp only [List.getElem_toArray, List.getElem_cons_succ, List.getElem_cons_zero, Act.put, List.setIfInBounds_toArray, List.set_cons_zero, List.set_cons_succ]
    -- 14: Op.move (Operand.tmp 1)
    refine' anyZ_pure (i := 14) (v := _) rfl (by rfl) (by kernel_rfl) (by kernel_rfl) (by kernel_rfl) hcl13 (fun _ _ _ h => h) (Or.inl ⟨by rfl, fun w _ => ?hz14⟩) (fun _ => hHeld) (fun hcl14 => ?rz14)
    case hz14 => (simp only [List.getElem_toArray, List.getElem_cons_succ, List.getElem_cons_zero]; first | (go_simp; with_reducible rfl) | (go_simp; done) | rfl)
    simp only [List.getElem_toArray, List.getElem_cons_succ, List.getElem_cons_zero, Act.put, List.setIfInBounds_toArray, List.set_cons_zero, List.set_cons_succ]
    -- 15: Op.load 29 (Operand.tmp 5)
    refine' anyZ_take (i := 15) (v := _) rfl (by rfl) (by kernel_rfl) (by kernel_rfl) (by kernel_rfl) hcl14 24 (by kernel_rfl) (by kernel_rfl) (fun _ _ _ h => h) (Or.inl ⟨by rfl, fun w hSw => ?hz15⟩) hHeld (fun hcl15 => ?rz15)
    case hz15 => (simp only [List.getElem_toArray, List.getElem_cons_succ, List.getElem_cons_zero]; obtain ⟨hS1, hS2, hS3, hS4, hS5, hS6, hS7, hS8, hS9, hS10, hS11, hS12⟩ := hSw; first | (go_simp; with_reducible rfl) | (go_simp; done) | rfl)
    simp only [List.getElem_toArray, List.getElem_cons_succ, List.getElem_cons_zero, Act.put, List.setIfInBounds_toArray, List.set_cons_zero, List.set_cons_succ]
    -- 12: Op.call { callee := Callee.value (Operand.func 18), args := 
    refine anyZ_oneG (i := 12) hcl15 (by kernel_rfl) (by simp only [List.getElem?_toArray, List.getElem?_cons_succ, List.getElem?_cons_zero]; rfl) (by rfl) (fun hcl16 K hK => ?_)
    go_simp
    refine (arrows_any g b l2 _ (HA8.out.below HB9.out)).mono ?_
    rintro e w12 ⟨v12, rfl, hx12, hb12⟩
    obtain ⟨a12, c12, rfl⟩ := hx12.slice
    have HB12 := Lib.hid (btr HB9.out hb12)
    have HX12 := Lib.hid hx12
    clear hb12 hx12
    have HB13 := Lib.hid (btr HB8.out HB12.out)
    have hnd := HNO8.out.below HB12.out
    obtain ⟨kv, hkv, hkk, -⟩ := hnd
    have hkv2 : kv = .slice a3 ML c3 := by unfold NdVal at hkv; injection hkv with hkv; simpa using hkv.symm
    subst hkv2
    have hput := rput_any _ l x m a3 c3 w12 ((HX8.out.below HB12.out).base (Nat.zero_le _)) HLA.out (by omega) (by rw [← HML.out]; exact hkk.base (Nat.zero_le _)) HOK3.out
    unfold NdVal at hput
    rw [← HML.out] at hput
    have HPUT := Lib.hid hput
    clear hput hkv hkk
    refine hK _ _ (fun _ => ?_) ?_
    · exact HSB.out _ HB12.out
    clear hK K hHeld
    have hHeld := HSB.out _ HB12.out
    try simp only [Act.put, List.setIfInBounds_toArray, List.set_cons_zero, List.set_cons_succ]
    -- 16: Op.call { callee := Callee.value (Operand.func 22), args := 
    refine anyZ_oneG (i := 16) hcl16 (by kernel_rfl) (by simp only [List.getElem?_toArray, List.getElem?_cons_succ, List.getElem?_cons_zero]; rfl) (by rfl) (fun hcl17 K hK => ?_)
    go_simp
    refine HPUT.out.mono ?_
    rintro e w13 ⟨v13, rfl, hx13, hb13⟩
    rw [← HL2.out] at hx13
    obtain ⟨a13, c13, rfl⟩ := hx13.slice
    have HX13 := Lib.hid hx13
    have HB14 := Lib.hid (btr HB12.out hb13)
    have HX14 := Lib.hid (HX12.out.below hb13)
    have HA14 := Lib.hid ((HA8.out.below HB12.out).below hb13)
    clear hx13 hb13 HPUT HX12
    refine hK _ _ (fun _ => ?_) ?_
    · exact HSB.out _ HB14.out
    clear hK K hHeld
    have hHeld := HSB.out _ HB14.out
    try simp only [Act.put, List.setIfInBounds_toArray, List.set_cons_zero, List.set_cons_succ]
    -- 17: Op.call { callee := Callee.value (Operand.func 19), args := 
    refine anyZ_oneG (i := 17) hcl17 (by kernel_rfl) (by simp only [List.getElem?_toArray, List.getElem?_cons_succ, List.getElem?_cons_zero]; rfl) (by rfl) (fun hcl18 K hK => ?_)
    go_simp
    refine (requal_any _ _ l2 l2 true ⟨fun _ => rfl, fun _ => rfl⟩ w13 (HX14.out.base (Nat.zero_le _)) (HX13.out.base (Nat.zero_le _)) (by omega)).mono ?_
    rintro e w14 ⟨rfl, hb14⟩
    have HB15 := Lib.hid (btr HB14.out hb14)
    have HA15 := Lib.hid (HA14.out.below hb14)
    clear hb14 HA14 HX13 HX14
    refine hK _ _ (fun _ => ?_) ?_
    · exact HSB.out _ HB15.out
    clear hK K hHeld
    have hHeld := HSB.out _ HB15.out
    try simp only [Act.put, List.setIfInBounds_toArray, List.set_cons_zero, List.set_cons_succ]
    -- 18: Op.pick (Operand.tmp 54) (Operand.tmp 61) (Operand.const (Va
    refine' anyZ_pure (i := 18) (v := _) rfl (by rfl) (by kernel_rfl) (by kernel_rfl) (by kernel_rfl) hcl18 (fun _ _ _ h => h) (Or.inl ⟨by rfl, fun w _ => ?hz19⟩) (fun _ => hHeld) (fun hcl19 => ?rz19)
    case hz19 => (simp only [List.getElem_toArray, List.getElem_cons_succ, List.getElem_cons_zero]; first | (go_simp; with_reducible rfl) | (go_simp; done) | rfl)
    simp only [List.getElem_toArray, List.getElem_cons_succ, List.getElem_cons_zero, Act.put, List.setIfInBounds_toArray, List.set_cons_zero, List.set_cons_succ]
    -- 19: Op.move (Operand.tmp 62)
    refine' anyZ_pure (i := 19) (v := _) rfl (by rfl) (by kernel_rfl) (by kernel_rfl) (by kernel_rfl) hcl19 (fun _ _ _ h => h) (Or.inl ⟨by rfl, fun w _ => ?hz20⟩) (fun _ => hHeld) (fun hcl20 => ?rz20)
    case hz20 => (simp only [List.getElem_toArray, List.getElem_cons_succ, List.getElem_cons_zero]; first | (go_simp; with_reducible rfl) | (go_simp; done) | rfl)
    simp only [List.getElem_toArray, List.getElem_cons_succ, List.getElem_cons_zero, Act.put, List.setIfInBounds_toArray, List.set_cons_zero, List.set_cons_succ]
    -- 20: Op.move (Operand.tmp 7)
    refine' anyZ_pure (i := 20) (v := _) rfl (by rfl) (by kernel_rfl) (by kernel_rfl) (by kernel_rfl) hcl20 (fun _ _ _ h => h) (Or.inl ⟨by rfl, fun w _ => ?hz21⟩) (fun _ => hHeld) (fun hcl21 => ?rz21)
    case hz21 => (simp only [List.getElem_toArray, List.getElem_cons_succ, List.getElem_cons_zero]; first | (go_simp; with_reducible rfl) | (go_simp; done) | rfl)
    simp only [List.getElem_toArray, List.getElem_cons_succ, List.getElem_cons_zero, Act.put, List.setIfInBounds_toArray, List.set_cons_zero, List.set_cons_succ]
    -- 23: Op.move (Operand.tmp 7)
    refine' anyZ_pure (i := 23) (v := _) rfl (by rfl) (by kernel_rfl) (by kernel_rfl) (by kernel_rfl) hcl21 (fun _ _ _ h => h) (Or.inl ⟨by rfl, fun w _ => ?hz22⟩) (fun _ => hHeld) (fun hcl22 => ?rz22)
    case hz22 => (simp only [List.getElem_toArray, List.getElem_cons_succ, List.getElem_cons_zero]; first | (go_simp; with_reducible rfl) | (go_simp; done) | rfl)
    simp only [List.getElem_toArray, List.getElem_cons_succ, List.getElem_cons_zero, Act.put, List.setIfInBounds_toArray, List.set_cons_zero, List.set_cons_succ]
    -- 21: Op.call { callee := Callee.value (Operand.func 23), args := 
    refine anyZ_oneG (i := 21) hcl22 (by kernel_rfl) (by simp only [List.getElem?_toArray, List.getElem?_cons_succ, List.getElem?_cons_zero]; rfl) (by rfl) (fun hcl23 K hK => ?_)
    go_simp
    refine (arids_any g b l2 w14 HA15.out).mono ?_
    rintro e w15 ⟨v15, rfl, ho15, hb15⟩
    obtain ⟨a15, c15, rfl⟩ := ho15.slice
    rw [List.length_map]
    have HB16 := Lib.hid (btr HB15.out hb15)
    have HA16 := Lib.hid (HA15.out.below hb15)
    obtain ⟨N2, hN2⟩ : ∃ q, q = l2.length := ⟨_, rfl⟩
    rw [← hN2]
    have HN2 := Lib.hid hN2
    clear ho15 hb15 HA15 hN2
    refine hK _ _ (fun _ => ?_) ?_
    · exact HSB.out _ HB16.out
    clear hK K hHeld
    have hHeld := HSB.out _ HB16.out
    try simp only [Act.put, List.setIfInBounds_toArray, List.set_cons_zero, List.set_cons_succ]
    -- 22: Op.call { callee := Callee.builtin Builtin.len, args := #[Op
    refine' anyZ_pure (i := 22) (v := _) rfl (by rfl) (by kernel_rfl) (by kernel_rfl) (by kernel_rfl) hcl23 (fun _ _ _ h => h) (Or.inl ⟨by rfl, fun w _ => ?hz24⟩) (fun _ => hHeld) (fun hcl24 => ?rz24)
    case hz24 => (simp only [List.getElem_toArray, List.getElem_cons_succ, List.getElem_cons_zero]; first | (go_simp; with_reducible rfl) | (go_simp; done) | rfl)
    simp only [List.getElem_toArray, List.getElem_cons_succ, List.getElem_cons_zero, Act.put, List.setIfInBounds_toArray, List.set_cons_zero, List.set_cons_succ]
    -- 24: Op.call { callee := Callee.value (Operand.func 24), args := 
    refine anyZ_oneG (i := 24) hcl24 (by kernel_rfl) (by simp only [List.getElem?_toArray, List.getElem?_cons_succ, List.getElem?_cons_zero]; rfl) (by rfl) (fun hcl25 K hK => ?_)
    go_simp
    refine (arlen_any g b l2 w15 HA16.out).mono ?_
    rintro e w16 ⟨rfl, hw16⟩
    have hw16' := hw16.symm
    subst hw16'
    rw [← HN2.out]
    refine hK _ _ (fun _ => ?_) ?_
    · exact HSB.out _ HB16.out
    clear hK K hHeld
    have hHeld := HSB.out _ HB16.out
    try simp only [Act.put, List.setIfInBounds_toArray, List.set_cons_zero, List.set_cons_succ]
    clear hHeld
    refine anyZ_chain_at (by kernel_rfl) ?_
    simp only [List.drop_succ_cons, List.drop_zero]
    go_wp2_with fail
    go_ret
    exact ⟨rfl, btr HB8.out HB16.out⟩
end Go.Proofs.Ytnbncjebmlicgaa
