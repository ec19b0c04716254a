/- Walk: the law ArenaDrops. -/
import Derived.Test.YtnbncjebmlicgaaArRwalk
import Derived.Test.YtnbncjebmlicgaaArLawP
namespace Go.Proofs.Ytnbncjebmlicgaa
open Go.RowKit

theorem foldl_del : ∀ (ids : List Nat) (l : List (Nat × Nd)), ids.foldl delA l = lessR l ids
  | [], l => by unfold lessR; exact (List.filter_eq_self.2 fun p _ => by simp).symm
  | x :: ids, l => by
    rw [List.foldl_cons, foldl_del ids (delA l x)]
    unfold lessR delA
    rw [List.filter_filter]
    congr 1
    funext p
    by_cases h : p.1 = x <;> by_cases h2 : p.1 ∈ ids <;> simp [h, h2]
theorem walkOf_gone {l : List (Nat × Nd)} {x : Nat} (h : getA l x = none) : walkOf l x = [] := by
  unfold walkOf
  rw [walkO_skip (.inl h), walkO_nil]
theorem mem_walkOf {l : List (Nat × Nd)} {x : Nat} {n : Nd} (h : getA l x = some n) : x ∈ walkOf l x := by
  unfold walkOf
  rw [walkO_step h (by simp)]
  obtain ⟨r, hr⟩ := walkO_pre l ([] ++ [x]) (n.kids ++ [])
  rw [hr]
  simp
theorem getA_less {l : List (Nat × Nd)} {ids : List Nat} {x : Nat} (h : x ∈ ids) : getA (lessR l ids) x = none := by
  cases hg : getA (lessR l ids) x with
  | none => rfl
  | some n =>
    have hm := getA_mem hg
    unfold lessR at hm
    have := (List.mem_filter.1 hm).2
    simp [h] at this
theorem getA_less_none {l : List (Nat × Nd)} {ids : List Nat} {x : Nat} (h : getA l x = none) : getA (lessR l ids) x = none := by
  cases hg : getA (lessR l ids) x with
  | none => rfl
  | some n =>
    have hm := (List.mem_filter.1 (getA_mem hg)).1
    exfalso
    unfold getA at h
    rw [Option.map_eq_none_iff, List.find?_eq_none] at h
    have := h _ hm
    simp at this
/-- behind the drop nothing is left to drop -/
theorem walk_twice (l : List (Nat × Nd)) (x : Nat) : walkOf (lessR l (walkOf l x)) x = [] := by
  refine walkOf_gone ?_
  cases h : getA l x with
  | none => exact getA_less_none h
  | some n => exact getA_less (mem_walkOf h)

def bump (d : Nat) (l : List Nat) : List Nat := l.map fun y => (y + d) % 18446744073709551616
def mix (d : Nat) (l : List Nat) (k : Nat) : List Nat := bump d (l.take k) ++ l.drop k
theorem mix_len (d : Nat) (l : List Nat) (k : Nat) : (mix d l k).length = l.length := by unfold mix bump; simp; omega
theorem bump_len (d : Nat) (l : List Nat) : (bump d l).length = l.length := by unfold bump; simp
theorem mix_get {d : Nat} {l : List Nat} {k y : Nat} (h : l[k]? = some y) : (mix d l k)[k]? = some y := by
  have hk := (List.getElem?_eq_some_iff.1 h).1
  unfold mix
  have hl : (bump d (l.take k)).length = k := by rw [bump_len, List.length_take]; omega
  rw [List.getElem?_append_right (by omega), hl, Nat.sub_self, List.getElem?_drop, Nat.add_zero]
  exact h
theorem mix_set {d : Nat} {l : List Nat} {k y : Nat} (h : l[k]? = some y) : (mix d l k).set k ((y + d) % 18446744073709551616) = mix d l (k + 1) := by
  have hk := (List.getElem?_eq_some_iff.1 h).1
  have hl : (bump d (l.take k)).length = k := by rw [bump_len, List.length_take]; omega
  have hd : l.drop k = y :: l.drop (k + 1) := by
    rw [List.drop_eq_getElem_cons hk]
    rw [List.getElem?_eq_getElem hk] at h
    rw [Option.some.inj h]
  have ht : l.take (k + 1) = l.take k ++ [y] := by rw [List.take_add_one, h]; rfl
  unfold mix
  rw [hd, List.set_append_right _ _ (by omega), hl, Nat.sub_self, List.set_cons_zero, ht]
  unfold bump
  rw [List.map_append, List.append_assoc]
  rfl
theorem mix_zero (d : Nat) (l : List Nat) : mix d l 0 = l := by unfold mix bump; simp
theorem mix_all (d : Nat) (l : List Nat) : mix d l l.length = bump d l := by unfold mix; simp
theorem bump_lt (d : Nat) (l : List Nat) : ∀ y ∈ bump d l, y < 18446744073709551616 := fun y hy => by
  obtain ⟨z, -, rfl⟩ := List.mem_map.1 hy
  exact Nat.mod_lt _ (by decide)
def ndBump (n : Nd) : Nd := ⟨n.kind, n.name, n.num, n.typ, n.ref, bump 7 n.kids⟩
theorem ndBump_ok {n : Nd} (h : n.Ok) : (ndBump n).Ok := ⟨h.kind, h.typ, h.ref, h.num, h.name, by show (bump 7 n.kids).length ≤ _; rw [bump_len]; exact h.few, bump_lt _ _⟩

set_option linter.unusedSimpArgs false in
set_option maxRecDepth 20000 in
set_option maxHeartbeats 6400000 in
theorem ardrops_any (v1 : Value) (r1 : List (Nat × Nd)) (x : Nat) (w : World) (h1 : RowsIn w v1 r1) (hx : x < 18446744073709551616) :
    Calls Try.prog 5 #[v1, .int .u64 x] w fun e w' => e = .returned (.bool true) ∧ Below w.heap.size w w' := by
  have H1 := Lib.hid h1
  obtain ⟨a1, c1, rfl, -⟩ := id h1
  clear h1
  go_enter Try.func5, Try.ntmps5
  go_wp2_with fail
  refine (awake_any w).mono ?_
  rintro e w1 ⟨rfl, hb1⟩
  have HB1 := Lib.hid hb1
  clear hb1
  go_wp2_with fail
  refine (lay_any _ r1 w1 (H1.out.below HB1.out)).mono ?_
  rintro e w2 ⟨g, b, xv, l, rfl, hl2⟩
  have HB2 := Lib.hid (btr HB1.out hl2.bel)
  have HL2 := Lib.hid hl2
  have HLOW : Hid (w1.heap.size ≤ g ∧ w1.heap.size ≤ b ∧ w.heap.size ≤ w1.heap.size) := Lib.hid ⟨hl2.low.1, hl2.low.2, HB1.out.size⟩
  have hle : l.length ≤ 31 := hl2.len
  have HBW : Hid (b < w2.heap.size) := Lib.hid hl2.ar.lt.2
  obtain ⟨xa, xc, rfl⟩ := hl2.rows.slice
  clear hl2 HB1 H1
  go_wp2_with fail
  refine (arcopy_any g b l w2 HL2.out.ar).mono ?_
  rintro e w4 ⟨g', b', rfl, hc4, hg4, hbb4, hb4⟩
  have HL4 := Lib.hid (HL2.out.below hb4)
  have HB4 := Lib.hid (btr HB2.out hb4)
  have HC4 := Lib.hid hc4
  have HNE : Hid (g' ≠ b ∧ b' ≠ b) := Lib.hid ⟨by have := HBW.out; omega, by have := HBW.out; omega⟩
  clear hb4 hc4 hg4 hbb4 HL2 HB2
  go_wp2_with fail
  refine (rwalk_any _ l x w4 (HL4.out.rows.base (Nat.zero_le _)) HL4.out.ar.asc (fun p hp => (ArV.ok (.inr ⟨g, b, rfl, HL4.out.ar⟩) p hp).few) hx (by omega)).mono ?_
  rintro e w6 ⟨vw, rfl, ho6, hb6⟩
  obtain ⟨ws, hws⟩ : ∃ ws, ws = walkOf l x := ⟨_, rfl⟩
  rw [← hws] at ho6
  obtain ⟨wa, wc, rfl⟩ := ho6.slice
  obtain ⟨WL, hWL⟩ : ∃ q, q = ws.length := ⟨_, rfl⟩
  rw [← hWL] at ho6 ⊢
  have HWS := Lib.hid hws
  have HWL := Lib.hid hWL
  have HL6 := Lib.hid (HL4.out.below hb6)
  have HB6 := Lib.hid (btr HB4.out hb6)
  have HC6 := Lib.hid (HC4.out.below hb6)
  have HO6 := Lib.hid ho6
  clear hb6 ho6 hws hWL HL4 HB4 HC4
  go_wp2_with fail
  refine (arget_any g' b' l x w6 HC6.out hx).mono ?_
  rintro e w7 ⟨v7, rfl, ho7, hb7⟩
  obtain ⟨nd, hnd⟩ : ∃ q, q = atN l x := ⟨_, rfl⟩
  rw [← hnd] at ho7
  have HND := Lib.hid hnd
  obtain ⟨bo, hbo⟩ : ∃ q, q = (getA l x).isSome := ⟨_, rfl⟩
  rw [← hbo]
  have HBO := Lib.hid hbo
  obtain ⟨kv, rfl, hk7, ok7⟩ := ho7
  obtain ⟨ka, kc, rfl⟩ := hk7.slice
  obtain ⟨KL, hKL⟩ : ∃ q, q = nd.kids.length := ⟨_, rfl⟩
  rw [← hKL] at hk7 ⊢
  have HKL := Lib.hid hKL
  have HOK := Lib.hid ok7
  have hKm : KL ≤ 1000000 := by rw [hKL]; exact ok7.few
  unfold NdVal
  have hb8 := bal hb7 (.cells #[.int .u8 nd.kind, .string nd.name, .int .i64 nd.num, .int .u8 nd.typ, .int .u64 nd.ref, .slice ka KL kc] 29)
  have hr8 := heap_alloc_new w7 (.cells #[.int .u8 nd.kind, .string nd.name, .int .i64 nd.num, .int .u8 nd.typ, .int .u64 nd.ref, .slice ka KL kc] 29)
  have HK8 := Lib.hid (hk7.below (bal (bre w7) (.cells #[.int .u8 nd.kind, .string nd.name, .int .i64 nd.num, .int .u8 nd.typ, .int .u64 nd.ref, .slice ka KL kc] 29)))
  have HKB : Hid (∀ q, (Value.slice ka KL kc).ownBlock = some q → w6.heap.size ≤ q ∧ q < w7.heap.size) := Lib.hid fun q hq => hk7.blk hq
  clear hnd hbo hKL
  go_upto_region 7 with fail
  generalize w7.alloc (.cells #[.int .u8 nd.kind, .string nd.name, .int .i64 nd.num, .int .u8 nd.typ, .int .u64 nd.ref, .slice ka KL kc] 29) = w8 at *
  obtain ⟨n9, hn9⟩ : ∃ q, q = w7.heap.size := ⟨_, rfl⟩
  rw [← hn9] at hr8 HKB ⊢
  have hR8 : Row6 w8 n9 nd (.slice ka KL kc) := hr8
  have HR8 := Lib.hid hR8
  have HB8 := Lib.hid hb8
  have hN9 : Hid (w6.heap.size ≤ n9) := Lib.hid (by have := hb7.size; omega)
  have y5 := hR8.c5
  clear hk7 ok7 hb7 hr8 hR8 hn9 hb8
  go_wp2_with fail
  go_loopw [11, 35] (fun _ i wr => ∃ k : Nat, k ≤ KL ∧ i = .int .i64 k ∧ Hid (OwnIds w6.heap.size wr (.slice ka KL kc) (mix 7 nd.kids k)) ∧ Hid (Only w8 wr (fun q => (Value.slice ka KL kc).ownBlock = some q))) (fun _ i _ => KL - (intOf i).toNat)
  case atStart => exact ⟨0, by omega, rfl, Lib.hid (by rw [mix_zero]; exact HK8.out), Lib.hid (Only.refl _ _)⟩
  case round =>
    clear HK8 y5
    obtain ⟨k, hk, rfl, hown, hon⟩ := hrel
    have hrw := HR8.out.only hon.out (fun e => by have := HKB.out _ e; omega)
    have y5 := hrw.c5
    have HRW := Lib.hid hrw
    clear hrw
    by_cases hlt : k < KL
    · have d1 : decide ((k : Int) < (KL : Int)) = true := decide_eq_true (by omega)
      have d1n : decide (k < KL) = true := decide_eq_true hlt
      obtain ⟨y, hy⟩ : ∃ y, nd.kids[k]? = some y := ⟨_, List.getElem?_eq_getElem (by rw [← HKL.out]; exact hlt)⟩
      obtain ⟨gk, rfl⟩ : ∃ gk, ka = some ⟨gk, 0, none⟩ := by
        obtain ⟨-, h2 | ⟨q, cap, cur, e2, -⟩⟩ := hown.out
        · exact absurd h2.2 (by rw [mix_len]; have := HKL.out; omega)
        · injection e2 with e2; exact ⟨q, e2⟩
      obtain ⟨cy, fy⟩ := hown.out.cell (mix_get (d := 7) hy)
      have k1 : (0 : Int) ≤ (k : Int) := by omega
      have k2 : (k : Int) < (KL : Int) := by omega
      have k4 : IntKind.i64.wrap (k : Int) = (k : Int) := by rw [IntKind.wrap_i64]; omega
      obtain ⟨z, hz⟩ : ∃ z, z = (y + 7) % 18446744073709551616 := ⟨_, rfl⟩
      have hzi : IntKind.u64.wrap ((y : Int) + 7) = (z : Int) := by rw [IntKind.wrap_u64]; omega
      have hset := hown.out.set k z
      rw [hz, mix_set hy, ← hz] at hset
      have HSET := Lib.hid hset
      have HON2 := Lib.hid (hon.out.trans ((Only.setCell wr ⟨gk, k, none⟩ (.int .u64 z)).mono (T := fun q => (Value.slice (some ⟨gk, 0, none⟩) KL kc).ownBlock = some q) fun i _ e => (by subst e; rfl)) fun _ _ h => h)
      clear hset hown hon hy hz HRW
      go_wp2_with fail
      exact ⟨⟨k + 1, by omega, by go_num, HSET, HON2⟩, by simp [intOf]; omega⟩
    · have d1 : decide ((k : Int) < (KL : Int)) = false := decide_eq_false (by omega)
      have d1n : decide (k < KL) = false := decide_eq_false hlt
      have hkK : k = KL := by omega
      have HK9 : Hid (OwnIds w6.heap.size wr (.slice ka KL kc) (bump 7 nd.kids)) := Lib.hid (by have h1 := hown.out; rw [hkK, HKL.out, mix_all, ← HKL.out] at h1; exact h1)
      have hbw : Below w6.heap.size w6 wr := HB8.out.trans (hon.out.below _ HB8.out.size fun i hi e => by have := (HKB.out i e).1; omega)
      have HL9 := Lib.hid (HL6.out.below hbw)
      have HC9 := Lib.hid (HC6.out.below hbw)
      have HO9 := Lib.hid (HO6.out.below hbw)
      have HB9 := Lib.hid (btr HB6.out hbw)
      clear hkK hown hon hbw HL6 HC6 HO6 HB6 HB8 HR8 y5 hlt hk
      go_wp2_with fail
      refine (ardrop_any g b l x wr HL9.out.ar hx).mono ?_
      rintro e w10 ⟨rfl, ha10, ho10⟩
      rw [← HWS.out, ← HWL.out]
      rw [← HWS.out, foldl_del] at ha10
      have hnm : ∀ k, k = b → ∀ cs fr, wr.heap[k]? ≠ some (.cells cs 26 fr) := fun k hk cs fr e => by
        obtain ⟨es, c, hb⟩ := HL9.out.ar.mapB
        subst hk; rw [hb] at e; cases e
      have HA10 := Lib.hid ha10
      have HC10 := Lib.hid (HC9.out.only ho10 HNE.out.1 HNE.out.2 hnm)
      have HX10 := Lib.hid (HL9.out.rows.mapOnly HL9.out.ar ho10)
      have HO10 := Lib.hid (HO9.out.only ho10 hnm)
      have HK10 := Lib.hid (HK9.out.only ho10 hnm)
      have HR10 := Lib.hid (HRW.out.mapOnly HL9.out.ar ho10)
      have HB10 : Hid (Below w.heap.size w w10) := Lib.hid (HB9.out.trans (ho10.below _ HB9.out.size fun i hi e => by have e2 : i = b := e; have := HLOW.out; omega))
      have wlb : ((WL : Int) != (WL : Int)) = false := by simp
      clear ha10 ho10 hnm HL9 HC9 HO9 HK9 HRW HB9
      go_wp2_with fail
      refine (arrows_any g b (lessR l ws) w10 HA10.out).mono ?_
      rintro e w11 ⟨v11, rfl, hx11, hb11⟩
      have HX11 := Lib.hid hx11
      have HA11 := Lib.hid (HA10.out.below hb11)
      have HC11 := Lib.hid (HC10.out.below hb11)
      have HY11 := Lib.hid (HX10.out.below hb11)
      have HO11 := Lib.hid (HO10.out.below hb11)
      have HK11 := Lib.hid (HK10.out.below hb11)
      have HR11 := Lib.hid (HR10.out.below hb11)
      have HB11 := Lib.hid (btr HB10.out hb11)
      obtain ⟨a11, c11, rfl⟩ := HX11.out.slice
      clear hx11 hb11 HA10 HC10 HX10 HO10 HK10 HR10 HB10
      go_wp2_with fail
      refine (rless_any _ _ l ws w11 (HY11.out.base (Nat.zero_le _)) (by rw [HWL.out]; rw [HWL.out] at HO11; exact HO11.out.ids) (by omega)).mono ?_
      rintro e w12 ⟨v12, rfl, hx12, hb12⟩
      have HX12 := Lib.hid hx12
      have HZ12 := Lib.hid (HX11.out.below hb12)
      have HA12 := Lib.hid (HA11.out.below hb12)
      have HC12 := Lib.hid (HC11.out.below hb12)
      have HY12 := Lib.hid (HY11.out.below hb12)
      have HK12 := Lib.hid (HK11.out.below hb12)
      have HR12 := Lib.hid (HR11.out.below hb12)
      have HB12 := Lib.hid (btr HB11.out hb12)
      obtain ⟨a12, c12, rfl⟩ := HX12.out.slice
      have hlen2 : (lessR l ws).length ≤ l.length := List.length_filter_le _ _
      clear hx12 hb12 HA11 HC11 HX11 HO11 HK11 HR11 HB11 HY11
      go_wp2_with fail
      refine (requal_any _ _ (lessR l ws) (lessR l ws) true ⟨fun _ => rfl, fun _ => rfl⟩ w12 (HZ12.out.base (Nat.zero_le _)) (HX12.out.base (Nat.zero_le _)) (by omega)).mono ?_
      rintro e w13 ⟨rfl, hb13⟩
      have HA13 := Lib.hid (HA12.out.below hb13)
      have HC13 := Lib.hid (HC12.out.below hb13)
      have HY13 := Lib.hid (HY12.out.below hb13)
      have HK13 := Lib.hid (HK12.out.below hb13)
      have HR13 := Lib.hid (HR12.out.below hb13)
      have HB13 := Lib.hid (btr HB12.out hb13)
      clear hb13 HA12 HC12 HX12 HK12 HR12 HB12 HY12 HZ12
      go_wp2_with fail
      refine (arrows_any g' b' l w13 HC13.out).mono ?_
      rintro e w14 ⟨v14, rfl, hx14, hb14⟩
      have HX14 := Lib.hid hx14
      have HA14 := Lib.hid (HA13.out.below hb14)
      have HY14 := Lib.hid (HY13.out.below hb14)
      have HK14 := Lib.hid (HK13.out.below hb14)
      have HR14 := Lib.hid (HR13.out.below hb14)
      have HB14 := Lib.hid (btr HB13.out hb14)
      obtain ⟨a14, c14, rfl⟩ := HX14.out.slice
      clear hx14 hb14 HA13 HC13 HK13 HR13 HB13 HY13
      go_wp2_with fail
      refine (requal_any _ _ l l true ⟨fun _ => rfl, fun _ => rfl⟩ w14 (HX14.out.base (Nat.zero_le _)) (HY14.out.base (Nat.zero_le _)) (by omega)).mono ?_
      rintro e w15 ⟨rfl, hb15⟩
      have HA15 := Lib.hid (HA14.out.below hb15)
      have HK15 := Lib.hid (HK14.out.below hb15)
      have HR15 := Lib.hid (HR14.out.below hb15)
      have HB15 := Lib.hid (btr HB14.out hb15)
      have hr := HR15.out
      have y0 := hr.c0
      have y1 := hr.c1
      have y2 := hr.c2
      have y3 := hr.c3
      have y4 := hr.c4
      have y5 := hr.c5
      have HNA : Hid (NdAt w15 (.agg #[.int .u8 nd.kind, .string nd.name, .int .i64 nd.num, .int .u8 nd.typ, .int .u64 nd.ref, .slice ka KL kc]) (ndBump nd)) := Lib.hid ⟨_, rfl, HK15.out.ids, ndBump_ok HOK.out⟩
      clear hb15 hr HA14 HK14 HR14 HB14 HY14 HX14 wlb
      go_wp2_with fail
      refine (whole_any _ (ndBump nd) w15 HNA.out).mono ?_
      rintro e w16 ⟨v16, rfl, ho16, hb16⟩
      obtain ⟨kv, rfl, hk16, ok16⟩ := ho16
      obtain ⟨ma, mc, rfl⟩ := hk16.slice
      have hbl : (ndBump nd).kids = bump 7 nd.kids := rfl
      rw [hbl, bump_len, ← HKL.out] at hk16
      rw [hbl, bump_len, ← HKL.out]
      unfold NdVal
      have hb17 := bal hb16 (.cells #[.int .u8 (ndBump nd).kind, .string (ndBump nd).name, .int .i64 (ndBump nd).num, .int .u8 (ndBump nd).typ, .int .u64 (ndBump nd).ref, .slice ma KL mc] 29)
      have hr17 := heap_alloc_new w16 (.cells #[.int .u8 (ndBump nd).kind, .string (ndBump nd).name, .int .i64 (ndBump nd).num, .int .u8 (ndBump nd).typ, .int .u64 (ndBump nd).ref, .slice ma KL mc] 29)
      have HM17 := Lib.hid (hk16.below (bal (bre w16) (.cells #[.int .u8 (ndBump nd).kind, .string (ndBump nd).name, .int .i64 (ndBump nd).num, .int .u8 (ndBump nd).typ, .int .u64 (ndBump nd).ref, .slice ma KL mc] 29)))
      have HMB : Hid (∀ q, (Value.slice ma KL mc).ownBlock = some q → w15.heap.size ≤ q ∧ q < w16.heap.size) := Lib.hid fun q hq => hk16.blk hq
      go_upto_region 15 with fail
      generalize w16.alloc (.cells #[.int .u8 (ndBump nd).kind, .string (ndBump nd).name, .int .i64 (ndBump nd).num, .int .u8 (ndBump nd).typ, .int .u64 (ndBump nd).ref, .slice ma KL mc] 29) = w17 at *
      obtain ⟨n12, hn12⟩ : ∃ q, q = w16.heap.size := ⟨_, rfl⟩
      rw [← hn12] at hr17 HMB ⊢
      have hR17 : Row6 w17 n12 (ndBump nd) (.slice ma KL mc) := hr17
      have HR17 := Lib.hid hR17
      have HB17 := Lib.hid hb17
      have z5 := hR17.c5
      clear hk16 ok16 hbl hb16 hr17 hR17 hn12 hb17 y0 y1 y2 y3 y4 y5 HNA
      go_wp2_with fail
      go_loopw [13, 73] (fun _ i ws => ∃ k : Nat, k ≤ KL ∧ i = .int .i64 k ∧ Hid (OwnIds w15.heap.size ws (.slice ma KL mc) (mix 1 (bump 7 nd.kids) k)) ∧ Hid (Only w17 ws (fun q => (Value.slice ma KL mc).ownBlock = some q))) (fun _ i _ => KL - (intOf i).toNat)
      case atStart => exact ⟨0, by omega, rfl, Lib.hid (by rw [mix_zero]; exact HM17.out), Lib.hid (Only.refl _ _)⟩
      case round =>
        clear HM17 z5
        obtain ⟨k, hk, rfl, hown, hon⟩ := hrel
        have hrw := HR17.out.only hon.out (fun e => by have := HMB.out _ e; omega)
        have z5 := hrw.c5
        have HRM := Lib.hid hrw
        clear hrw
        by_cases hlt : k < KL
        · have d1 : decide ((k : Int) < (KL : Int)) = true := decide_eq_true (by omega)
          have d1n : decide (k < KL) = true := decide_eq_true hlt
          obtain ⟨y, hy⟩ : ∃ y, (bump 7 nd.kids)[k]? = some y := ⟨_, List.getElem?_eq_getElem (by rw [bump_len, ← HKL.out]; exact hlt)⟩
          obtain ⟨gk, rfl⟩ : ∃ gk, ma = some ⟨gk, 0, none⟩ := by
            obtain ⟨-, h2 | ⟨q, cap, cur, e2, -⟩⟩ := hown.out
            · exact absurd h2.2 (by rw [mix_len, bump_len]; have := HKL.out; omega)
            · injection e2 with e2; exact ⟨q, e2⟩
          obtain ⟨cy, fy⟩ := hown.out.cell (mix_get (d := 1) hy)
          have k1 : (0 : Int) ≤ (k : Int) := by omega
          have k2 : (k : Int) < (KL : Int) := by omega
          have k4 : IntKind.i64.wrap (k : Int) = (k : Int) := by rw [IntKind.wrap_i64]; omega
          obtain ⟨z, hz⟩ : ∃ z, z = (y + 1) % 18446744073709551616 := ⟨_, rfl⟩
          have hzi : IntKind.u64.wrap ((y : Int) + 1) = (z : Int) := by rw [IntKind.wrap_u64]; omega
          have hset := hown.out.set k z
          rw [hz, mix_set hy, ← hz] at hset
          have HSET := Lib.hid hset
          have HON2 := Lib.hid (hon.out.trans ((Only.setCell wr ⟨gk, k, none⟩ (.int .u64 z)).mono (T := fun q => (Value.slice (some ⟨gk, 0, none⟩) KL mc).ownBlock = some q) fun i _ e => (by subst e; rfl)) fun _ _ h => h)
          clear hset hown hon hy hz HRM
          go_wp2_with fail
          go_roundw
          case rel => first | exact ⟨k + 1, by omega, by go_num, HSET, HON2⟩ | ((repeat apply Exists.intro); exact ⟨⟨k + 1, by omega, by go_num, HSET, HON2⟩, rfl⟩)
          case measure => (simp [intOf]; try omega)
        · have d1 : decide ((k : Int) < (KL : Int)) = false := decide_eq_false (by omega)
          have d1n : decide (k < KL) = false := decide_eq_false hlt
          have hkK : k = KL := by omega
          have HM18 : Hid (OwnIds w15.heap.size wr (.slice ma KL mc) (bump 1 (bump 7 nd.kids))) := Lib.hid (by have h1 := hown.out; rw [hkK, HKL.out, ← bump_len 7 nd.kids, mix_all, bump_len 7 nd.kids, ← HKL.out] at h1; exact h1)
          have hbw : Below w15.heap.size w15 wr := HB17.out.trans (hon.out.below _ HB17.out.size fun i hi e => by have := (HMB.out i e).1; omega)
          have HA18 := Lib.hid (HA15.out.below hbw)
          have HK18 := Lib.hid (HK15.out.below hbw)
          have HR18 := Lib.hid (HR15.out.below hbw)
          have HB18 := Lib.hid (btr HB15.out hbw)
          clear hkK hown hon hbw HA15 HK15 HR15 HB15 HB17 HR17 z5 hlt hk
          go_upto_region 20 with fail
          cases bo with
          | false =>
            refine region_anyZ (z := 22) (S := fun _ => True) (by kernel_rfl) ?_
            refine anyZ_begin (fun hcl0 => ?_)
            refine anyZ_held (by trivial) (fun hHeld => ?_)
            -- 0: Op.move (Operand.tmp 10)
            refine' anyZ_pure (i := 0) (v := _) rfl (by rfl) (by kernel_rfl) (by kernel_rfl) (by kernel_rfl) hcl0 (fun _ _ _ h => h) (Or.inl ⟨by rfl, fun w _ => ?hu1⟩) (fun _ => hHeld) (fun hcl1 => ?ru1)
            case hu1 => (simp only [List.getElem_toArray, List.getElem_cons_zero]; first | (go_simp; with_reducible rfl) | (go_simp; done) | rfl)
            simp only [List.getElem_toArray, List.getElem_cons_zero, Act.put, List.setIfInBounds_toArray, List.set_cons_zero, List.set_cons_succ]
            -- 1: Op.unOp UnOp.not 4 (Operand.tmp 84)
            refine' anyZ_pure (i := 1) (v := _) rfl (by rfl) (by kernel_rfl) (by kernel_rfl) (by kernel_rfl) hcl1 (fun _ _ _ h => h) (Or.inl ⟨by rfl, fun w _ => ?hu2⟩) (fun _ => hHeld) (fun hcl2 => ?ru2)
            case hu2 => (simp only [List.getElem_toArray, List.getElem_cons_succ, List.getElem_cons_zero]; first | (go_simp; with_reducible rfl) | (go_simp; done) | rfl)
            simp only [List.getElem_toArray, List.getElem_cons_succ, List.getElem_cons_zero, Act.put, List.setIfInBounds_toArray, List.set_cons_zero, List.set_cons_succ]
            -- 2: Op.move (Operand.tmp 85)
            refine' anyZ_pure (i := 2) (v := _) rfl (by rfl) (by kernel_rfl) (by kernel_rfl) (by kernel_rfl) hcl2 (fun _ _ _ h => h) (Or.inl ⟨by rfl, fun w _ => ?hu3⟩) (fun _ => hHeld) (fun hcl3 => ?ru3)
            case hu3 => (simp only [List.getElem_toArray, List.getElem_cons_succ, List.getElem_cons_zero]; first | (go_simp; with_reducible rfl) | (go_simp; done) | rfl)
            simp only [List.getElem_toArray, List.getElem_cons_succ, List.getElem_cons_zero, Act.put, List.setIfInBounds_toArray, List.set_cons_zero, List.set_cons_succ]
            -- 3 (not wanted): Op.fieldAddr 29 (Operand.tmp 9) 5
            refine anyZ_oneSkip (i := 3) hcl3 (by kernel_rfl) (by simp only [List.getElem?_toArray, List.getElem?_cons_succ, List.getElem?_cons_zero]; rfl) (by kernel_rfl) (fun _ => hHeld) (fun hcl4 => ?_)
            simp only [Act.put, List.setIfInBounds_toArray, List.set_cons_zero, List.set_cons_succ]
            -- 4 (not wanted): Op.load 27 (Operand.tmp 87)
            refine anyZ_oneSkip (i := 4) hcl4 (by kernel_rfl) (by simp only [List.getElem?_toArray, List.getElem?_cons_succ, List.getElem?_cons_zero]; rfl) (by kernel_rfl) (fun _ => hHeld) (fun hcl5 => ?_)
            simp only [Act.put, List.setIfInBounds_toArray, List.set_cons_zero, List.set_cons_succ]
            -- 5 (not wanted): Op.call { callee := Callee.builtin Builtin.len, args := #[Op
            refine anyZ_oneSkip (i := 5) hcl5 (by kernel_rfl) (by simp only [List.getElem?_toArray, List.getElem?_cons_succ, List.getElem?_cons_zero]; rfl) (by kernel_rfl) (fun _ => hHeld) (fun hcl6 => ?_)
            simp only [Act.put, List.setIfInBounds_toArray, List.set_cons_zero, List.set_cons_succ]
            -- 6 (not wanted): Op.binOp BinOp.eql 3 (Operand.tmp 89) (Operand.const (Value.
            refine anyZ_oneSkip (i := 6) hcl6 (by kernel_rfl) (by simp only [List.getElem?_toArray, List.getElem?_cons_succ, List.getElem?_cons_zero]; rfl) (by kernel_rfl) (fun _ => hHeld) (fun hcl7 => ?_)
            simp only [Act.put, List.setIfInBounds_toArray, List.set_cons_zero, List.set_cons_succ]
            -- 7: Op.pick (Operand.tmp 86) (Operand.const (Value.bool true)) (
            refine' anyZ_pure (i := 7) (v := _) rfl (by rfl) (by kernel_rfl) (by kernel_rfl) (by kernel_rfl) hcl7 (fun _ _ _ h => h) (Or.inl ⟨by rfl, fun w _ => ?hu8⟩) (fun _ => hHeld) (fun hcl8 => ?ru8)
            case hu8 => (simp only [List.getElem_toArray, List.getElem_cons_succ, List.getElem_cons_zero]; first | (go_simp; with_reducible rfl) | (go_simp; done) | rfl)
            simp only [List.getElem_toArray, List.getElem_cons_succ, List.getElem_cons_zero, Act.put, List.setIfInBounds_toArray, List.set_cons_zero, List.set_cons_succ]
            -- 8: Op.move (Operand.tmp 91)
            refine' anyZ_pure (i := 8) (v := _) rfl (by rfl) (by kernel_rfl) (by kernel_rfl) (by kernel_rfl) hcl8 (fun _ _ _ h => h) (Or.inl ⟨by rfl, fun w _ => ?hu9⟩) (fun _ => hHeld) (fun hcl9 => ?ru9)
            case hu9 => (simp only [List.getElem_toArray, List.getElem_cons_succ, List.getElem_cons_zero]; first | (go_simp; with_reducible rfl) | (go_simp; done) | rfl)
            simp only [List.getElem_toArray, List.getElem_cons_succ, List.getElem_cons_zero, Act.put, List.setIfInBounds_toArray, List.set_cons_zero, List.set_cons_succ]
            -- 9 (not wanted): Op.fieldAddr 29 (Operand.tmp 9) 5
            refine' anyZ_pure (i := 9) (v := undef) rfl (by rfl) (by kernel_rfl) (by kernel_rfl) (by kernel_rfl) hcl9 (fun _ _ _ h => h) (Or.inr ⟨by rfl, rfl⟩) (fun _ => hHeld) (fun hcl10 => ?ru10)
            simp only [Act.put, List.setIfInBounds_toArray, List.set_cons_zero, List.set_cons_succ]
            -- 10 (not wanted): Op.load 27 (Operand.tmp 93)
            refine' anyZ_pure (i := 10) (v := undef) rfl (by rfl) (by kernel_rfl) (by kernel_rfl) (by kernel_rfl) hcl10 (fun _ _ _ h => h) (Or.inr ⟨by rfl, rfl⟩) (fun _ => hHeld) (fun hcl11 => ?ru11)
            simp only [Act.put, List.setIfInBounds_toArray, List.set_cons_zero, List.set_cons_succ]
            -- 11 (not wanted): Op.indexAddr 27 (Operand.tmp 94) (Operand.const (Value.int I
            refine' anyZ_pure (i := 11) (v := undef) rfl (by rfl) (by kernel_rfl) (by kernel_rfl) (by kernel_rfl) hcl11 (fun _ _ _ h => h) (Or.inr ⟨by rfl, rfl⟩) (fun _ => hHeld) (fun hcl12 => ?ru12)
            simp only [Act.put, List.setIfInBounds_toArray, List.set_cons_zero, List.set_cons_succ]
            -- 12 (not wanted): Op.load 26 (Operand.tmp 95)
            refine' anyZ_pure (i := 12) (v := undef) rfl (by rfl) (by kernel_rfl) (by kernel_rfl) (by kernel_rfl) hcl12 (fun _ _ _ h => h) (Or.inr ⟨by rfl, rfl⟩) (fun _ => hHeld) (fun hcl13 => ?ru13)
            simp only [Act.put, List.setIfInBounds_toArray, List.set_cons_zero, List.set_cons_succ]
            -- 13 (not wanted): Op.fieldAddr 29 (Operand.tmp 12) 5
            refine anyZ_oneSkip (i := 13) hcl13 (by kernel_rfl) (by simp only [List.getElem?_toArray, List.getElem?_cons_succ, List.getElem?_cons_zero]; rfl) (by kernel_rfl) (fun _ => hHeld) (fun hcl14 => ?_)
            simp only [Act.put, List.setIfInBounds_toArray, List.set_cons_zero, List.set_cons_succ]
            -- 14 (not wanted): Op.load 27 (Operand.tmp 97)
            refine anyZ_oneSkip (i := 14) hcl14 (by kernel_rfl) (by simp only [List.getElem?_toArray, List.getElem?_cons_succ, List.getElem?_cons_zero]; rfl) (by kernel_rfl) (fun _ => hHeld) (fun hcl15 => ?_)
            simp only [Act.put, List.setIfInBounds_toArray, List.set_cons_zero, List.set_cons_succ]
            -- 15 (not wanted): Op.indexAddr 27 (Operand.tmp 98) (Operand.const (Value.int I
            refine anyZ_oneSkip (i := 15) hcl15 (by kernel_rfl) (by simp only [List.getElem?_toArray, List.getElem?_cons_succ, List.getElem?_cons_zero]; rfl) (by kernel_rfl) (fun _ => hHeld) (fun hcl16 => ?_)
            simp only [Act.put, List.setIfInBounds_toArray, List.set_cons_zero, List.set_cons_succ]
            -- 16 (not wanted): Op.load 26 (Operand.tmp 99)
            refine anyZ_oneSkip (i := 16) hcl16 (by kernel_rfl) (by simp only [List.getElem?_toArray, List.getElem?_cons_succ, List.getElem?_cons_zero]; rfl) (by kernel_rfl) (fun _ => hHeld) (fun hcl17 => ?_)
            simp only [Act.put, List.setIfInBounds_toArray, List.set_cons_zero, List.set_cons_succ]
            -- 17 (not wanted): Op.binOp BinOp.neq 26 (Operand.tmp 96) (Operand.tmp 100) 26
            refine anyZ_oneSkip (i := 17) hcl17 (by kernel_rfl) (by simp only [List.getElem?_toArray, List.getElem?_cons_succ, List.getElem?_cons_zero]; rfl) (by kernel_rfl) (fun _ => hHeld) (fun hcl18 => ?_)
            simp only [Act.put, List.setIfInBounds_toArray, List.set_cons_zero, List.set_cons_succ]
            -- 18: Op.pick (Operand.tmp 92) (Operand.const (Value.bool true)) (
            refine' anyZ_pure (i := 18) (v := _) rfl (by rfl) (by kernel_rfl) (by kernel_rfl) (by kernel_rfl) hcl18 (fun _ _ _ h => h) (Or.inl ⟨by rfl, fun w _ => ?hu19⟩) (fun _ => hHeld) (fun hcl19 => ?ru19)
            case hu19 => (simp only [List.getElem_toArray, List.getElem_cons_succ, List.getElem_cons_zero]; first | (go_simp; with_reducible rfl) | (go_simp; done) | rfl)
            simp only [List.getElem_toArray, List.getElem_cons_succ, List.getElem_cons_zero, Act.put, List.setIfInBounds_toArray, List.set_cons_zero, List.set_cons_succ]
            -- 19: Op.move (Operand.tmp 102)
            refine' anyZ_pure (i := 19) (v := _) rfl (by rfl) (by kernel_rfl) (by kernel_rfl) (by kernel_rfl) hcl19 (fun _ _ _ h => h) (Or.inl ⟨by rfl, fun w _ => ?hu20⟩) (fun _ => hHeld) (fun hcl20 => ?ru20)
            case hu20 => (simp only [List.getElem_toArray, List.getElem_cons_succ, List.getElem_cons_zero]; first | (go_simp; with_reducible rfl) | (go_simp; done) | rfl)
            simp only [List.getElem_toArray, List.getElem_cons_succ, List.getElem_cons_zero, Act.put, List.setIfInBounds_toArray, List.set_cons_zero, List.set_cons_succ]
            -- 20: Op.move (Operand.tmp 5)
            refine' anyZ_pure (i := 20) (v := _) rfl (by rfl) (by kernel_rfl) (by kernel_rfl) (by kernel_rfl) hcl20 (fun _ _ _ h => h) (Or.inl ⟨by rfl, fun w _ => ?hu21⟩) (fun _ => hHeld) (fun hcl21 => ?ru21)
            case hu21 => (simp only [List.getElem_toArray, List.getElem_cons_succ, List.getElem_cons_zero]; first | (go_simp; with_reducible rfl) | (go_simp; done) | rfl)
            simp only [List.getElem_toArray, List.getElem_cons_succ, List.getElem_cons_zero, Act.put, List.setIfInBounds_toArray, List.set_cons_zero, List.set_cons_succ]
            -- 21: Op.move (Operand.tmp 1)
            refine' anyZ_pure (i := 21) (v := _) rfl (by rfl) (by kernel_rfl) (by kernel_rfl) (by kernel_rfl) hcl21 (fun _ _ _ h => h) (Or.inl ⟨by rfl, fun w _ => ?hu22⟩) (fun _ => hHeld) (fun hcl22 => ?ru22)
            case hu22 => (simp only [List.getElem_toArray, List.getElem_cons_succ, List.getElem_cons_zero]; first | (go_simp; with_reducible rfl) | (go_simp; done) | rfl)
            simp only [List.getElem_toArray, List.getElem_cons_succ, List.getElem_cons_zero, Act.put, List.setIfInBounds_toArray, List.set_cons_zero, List.set_cons_succ]
            clear hHeld
            refine anyZ_chain_at (by kernel_rfl) ?_
            simp only [List.drop_succ_cons, List.drop_zero]
            go_wp2_with fail
            refine (ardrop_any g b (lessR l ws) x _ (HA18.out.below (bdr (bre wr))) hx).mono ?_
            rintro e w19 ⟨rfl, -, ho19⟩
            have HB19 : Hid (Below w.heap.size w w19) := Lib.hid (HB18.out.drew.trans (ho19.below _ HB18.out.size fun i hi e => by have e2 : i = b := e; have := HLOW.out; omega))
            rw [show walkOf (lessR l ws) x = [] by rw [HWS.out]; exact walk_twice l x]
            clear ho19
            go_wp2_with fail
            go_ret
            exact ⟨rfl, HB19.out⟩
          | true =>
          by_cases hK0 : KL = 0
          · subst hK0
            have HSB : Hid (wr.drew.cell? ⟨n9, 5, none⟩ = some (.slice ka 0 kc)) := Lib.hid HR18.out.c5
            refine region_anyZ (z := 22) (S := fun w' => w'.cell? ⟨n9, 5, none⟩ = some (.slice ka 0 kc)) (by kernel_rfl) ?_
            refine anyZ_begin (fun hcl0 => ?_)
            refine anyZ_held (by exact HSB.out) (fun hHeld => ?_)
            -- 0: Op.move (Operand.tmp 10)
            refine' anyZ_pure (i := 0) (v := _) rfl (by rfl) (by kernel_rfl) (by kernel_rfl) (by kernel_rfl) hcl0 (fun _ _ _ h => h) (Or.inl ⟨by rfl, fun w _ => ?hv1⟩) (fun _ => hHeld) (fun hcl1 => ?rv1)
            case hv1 => (simp only [List.getElem_toArray, List.getElem_cons_zero]; first | (go_simp; with_reducible rfl) | (go_simp; done) | rfl)
            simp only [List.getElem_toArray, List.getElem_cons_zero, Act.put, List.setIfInBounds_toArray, List.set_cons_zero, List.set_cons_succ]
            -- 1: Op.unOp UnOp.not 4 (Operand.tmp 84)
            refine' anyZ_pure (i := 1) (v := _) rfl (by rfl) (by kernel_rfl) (by kernel_rfl) (by kernel_rfl) hcl1 (fun _ _ _ h => h) (Or.inl ⟨by rfl, fun w _ => ?hv2⟩) (fun _ => hHeld) (fun hcl2 => ?rv2)
            case hv2 => (simp only [List.getElem_toArray, List.getElem_cons_succ, List.getElem_cons_zero]; first | (go_simp; with_reducible rfl) | (go_simp; done) | rfl)
            simp only [List.getElem_toArray, List.getElem_cons_succ, List.getElem_cons_zero, Act.put, List.setIfInBounds_toArray, List.set_cons_zero, List.set_cons_succ]
            -- 2: Op.move (Operand.tmp 85)
            refine' anyZ_pure (i := 2) (v := _) rfl (by rfl) (by kernel_rfl) (by kernel_rfl) (by kernel_rfl) hcl2 (fun _ _ _ h => h) (Or.inl ⟨by rfl, fun w _ => ?hv3⟩) (fun _ => hHeld) (fun hcl3 => ?rv3)
            case hv3 => (simp only [List.getElem_toArray, List.getElem_cons_succ, List.getElem_cons_zero]; first | (go_simp; with_reducible rfl) | (go_simp; done) | rfl)
            simp only [List.getElem_toArray, List.getElem_cons_succ, List.getElem_cons_zero, Act.put, List.setIfInBounds_toArray, List.set_cons_zero, List.set_cons_succ]
            -- 3: Op.fieldAddr 29 (Operand.tmp 9) 5
            refine' anyZ_pure (i := 3) (v := _) rfl (by rfl) (by kernel_rfl) (by kernel_rfl) (by kernel_rfl) hcl3 (fun _ _ _ h => h) (Or.inl ⟨by rfl, fun w _ => ?hv4⟩) (fun _ => hHeld) (fun hcl4 => ?rv4)
            case hv4 => (simp only [List.getElem_toArray, List.getElem_cons_succ, List.getElem_cons_zero]; first | (go_simp; with_reducible rfl) | (go_simp; done) | rfl)
            simp only [List.getElem_toArray, List.getElem_cons_succ, List.getElem_cons_zero, Act.put, List.setIfInBounds_toArray, List.set_cons_zero, List.set_cons_succ]
            -- 4: Op.load 27 (Operand.tmp 87)
            refine' anyZ_take (i := 4) (v := _) rfl (by rfl) (by kernel_rfl) (by kernel_rfl) (by kernel_rfl) hcl4 12 (by kernel_rfl) (by kernel_rfl) (fun _ _ _ h => h) (Or.inl ⟨by rfl, fun w hSw => ?hv5⟩) hHeld (fun hcl5 => ?rv5)
            case hv5 => (simp only [List.getElem_toArray, List.getElem_cons_succ, List.getElem_cons_zero]; have hS1 := hSw; first | (go_simp; with_reducible rfl) | (go_simp; done) | rfl)
            simp only [List.getElem_toArray, List.getElem_cons_succ, List.getElem_cons_zero, Act.put, List.setIfInBounds_toArray, List.set_cons_zero, List.set_cons_succ]
            -- 5: Op.call { callee := Callee.builtin Builtin.len, args := #[Op
            refine' anyZ_pure (i := 5) (v := _) rfl (by rfl) (by kernel_rfl) (by kernel_rfl) (by kernel_rfl) hcl5 (fun _ _ _ h => h) (Or.inl ⟨by rfl, fun w _ => ?hv6⟩) (fun _ => hHeld) (fun hcl6 => ?rv6)
            case hv6 => (simp only [List.getElem_toArray, List.getElem_cons_succ, List.getElem_cons_zero]; first | (go_simp; with_reducible rfl) | (go_simp; done) | rfl)
            simp only [List.getElem_toArray, List.getElem_cons_succ, List.getElem_cons_zero, Act.put, List.setIfInBounds_toArray, List.set_cons_zero, List.set_cons_succ]
            -- 6: Op.binOp BinOp.eql 3 (Operand.tmp 89) (Operand.const (Value.
            refine' anyZ_pure (i := 6) (v := _) rfl (by rfl) (by kernel_rfl) (by kernel_rfl) (by kernel_rfl) hcl6 (fun _ _ _ h => h) (Or.inl ⟨by rfl, fun w _ => ?hv7⟩) (fun _ => hHeld) (fun hcl7 => ?rv7)
            case hv7 => (simp only [List.getElem_toArray, List.getElem_cons_succ, List.getElem_cons_zero]; first | (go_simp; with_reducible rfl) | (go_simp; done) | rfl)
            simp only [List.getElem_toArray, List.getElem_cons_succ, List.getElem_cons_zero, Act.put, List.setIfInBounds_toArray, List.set_cons_zero, List.set_cons_succ]
            -- 7: Op.pick (Operand.tmp 86) (Operand.const (Value.bool true)) (
            refine' anyZ_pure (i := 7) (v := _) rfl (by rfl) (by kernel_rfl) (by kernel_rfl) (by kernel_rfl) hcl7 (fun _ _ _ h => h) (Or.inl ⟨by rfl, fun w _ => ?hv8⟩) (fun _ => hHeld) (fun hcl8 => ?rv8)
            case hv8 => (simp only [List.getElem_toArray, List.getElem_cons_succ, List.getElem_cons_zero]; first | (go_simp; with_reducible rfl) | (go_simp; done) | rfl)
            simp only [List.getElem_toArray, List.getElem_cons_succ, List.getElem_cons_zero, Act.put, List.setIfInBounds_toArray, List.set_cons_zero, List.set_cons_succ]
            -- 8: Op.move (Operand.tmp 91)
            refine' anyZ_pure (i := 8) (v := _) rfl (by rfl) (by kernel_rfl) (by kernel_rfl) (by kernel_rfl) hcl8 (fun _ _ _ h => h) (Or.inl ⟨by rfl, fun w _ => ?hv9⟩) (fun _ => hHeld) (fun hcl9 => ?rv9)
            case hv9 => (simp only [List.getElem_toArray, List.getElem_cons_succ, List.getElem_cons_zero]; first | (go_simp; with_reducible rfl) | (go_simp; done) | rfl)
            simp only [List.getElem_toArray, List.getElem_cons_succ, List.getElem_cons_zero, Act.put, List.setIfInBounds_toArray, List.set_cons_zero, List.set_cons_succ]
            -- 9 (not wanted): Op.fieldAddr 29 (Operand.tmp 9) 5
            refine' anyZ_pure (i := 9) (v := undef) rfl (by rfl) (by kernel_rfl) (by kernel_rfl) (by kernel_rfl) hcl9 (fun _ _ _ h => h) (Or.inr ⟨by rfl, rfl⟩) (fun _ => hHeld) (fun hcl10 => ?rv10)
            simp only [Act.put, List.setIfInBounds_toArray, List.set_cons_zero, List.set_cons_succ]
            -- 10 (not wanted): Op.load 27 (Operand.tmp 93)
            refine' anyZ_pure (i := 10) (v := undef) rfl (by rfl) (by kernel_rfl) (by kernel_rfl) (by kernel_rfl) hcl10 (fun _ _ _ h => h) (Or.inr ⟨by rfl, rfl⟩) (fun _ => hHeld) (fun hcl11 => ?rv11)
            simp only [Act.put, List.setIfInBounds_toArray, List.set_cons_zero, List.set_cons_succ]
            -- 11 (not wanted): Op.indexAddr 27 (Operand.tmp 94) (Operand.const (Value.int I
            refine' anyZ_pure (i := 11) (v := undef) rfl (by rfl) (by kernel_rfl) (by kernel_rfl) (by kernel_rfl) hcl11 (fun _ _ _ h => h) (Or.inr ⟨by rfl, rfl⟩) (fun _ => hHeld) (fun hcl12 => ?rv12)
            simp only [Act.put, List.setIfInBounds_toArray, List.set_cons_zero, List.set_cons_succ]
            -- 12 (not wanted): Op.load 26 (Operand.tmp 95)
            refine' anyZ_pure (i := 12) (v := undef) rfl (by rfl) (by kernel_rfl) (by kernel_rfl) (by kernel_rfl) hcl12 (fun _ _ _ h => h) (Or.inr ⟨by rfl, rfl⟩) (fun _ => hHeld) (fun hcl13 => ?rv13)
            simp only [Act.put, List.setIfInBounds_toArray, List.set_cons_zero, List.set_cons_succ]
            -- 13 (not wanted): Op.fieldAddr 29 (Operand.tmp 12) 5
            refine anyZ_oneSkip (i := 13) hcl13 (by kernel_rfl) (by simp only [List.getElem?_toArray, List.getElem?_cons_succ, List.getElem?_cons_zero]; rfl) (by kernel_rfl) (fun _ => hHeld) (fun hcl14 => ?_)
            simp only [Act.put, List.setIfInBounds_toArray, List.set_cons_zero, List.set_cons_succ]
            -- 14 (not wanted): Op.load 27 (Operand.tmp 97)
            refine anyZ_oneSkip (i := 14) hcl14 (by kernel_rfl) (by simp only [List.getElem?_toArray, List.getElem?_cons_succ, List.getElem?_cons_zero]; rfl) (by kernel_rfl) (fun _ => hHeld) (fun hcl15 => ?_)
            simp only [Act.put, List.setIfInBounds_toArray, List.set_cons_zero, List.set_cons_succ]
            -- 15 (not wanted): Op.indexAddr 27 (Operand.tmp 98) (Operand.const (Value.int I
            refine anyZ_oneSkip (i := 15) hcl15 (by kernel_rfl) (by simp only [List.getElem?_toArray, List.getElem?_cons_succ, List.getElem?_cons_zero]; rfl) (by kernel_rfl) (fun _ => hHeld) (fun hcl16 => ?_)
            simp only [Act.put, List.setIfInBounds_toArray, List.set_cons_zero, List.set_cons_succ]
            -- 16 (not wanted): Op.load 26 (Operand.tmp 99)
            refine anyZ_oneSkip (i := 16) hcl16 (by kernel_rfl) (by simp only [List.getElem?_toArray, List.getElem?_cons_succ, List.getElem?_cons_zero]; rfl) (by kernel_rfl) (fun _ => hHeld) (fun hcl17 => ?_)
            simp only [Act.put, List.setIfInBounds_toArray, List.set_cons_zero, List.set_cons_succ]
            -- 17 (not wanted): Op.binOp BinOp.neq 26 (Operand.tmp 96) (Operand.tmp 100) 26
            refine anyZ_oneSkip (i := 17) hcl17 (by kernel_rfl) (by simp only [List.getElem?_toArray, List.getElem?_cons_succ, List.getElem?_cons_zero]; rfl) (by kernel_rfl) (fun _ => hHeld) (fun hcl18 => ?_)
            simp only [Act.put, List.setIfInBounds_toArray, List.set_cons_zero, List.set_cons_succ]
            -- 18: Op.pick (Operand.tmp 92) (Operand.const (Value.bool true)) (
            refine' anyZ_pure (i := 18) (v := _) rfl (by rfl) (by kernel_rfl) (by kernel_rfl) (by kernel_rfl) hcl18 (fun _ _ _ h => h) (Or.inl ⟨by rfl, fun w _ => ?hv19⟩) (fun _ => hHeld) (fun hcl19 => ?rv19)
            case hv19 => (simp only [List.getElem_toArray, List.getElem_cons_succ, List.getElem_cons_zero]; first | (go_simp; with_reducible rfl) | (go_simp; done) | rfl)
            simp only [List.getElem_toArray, List.getElem_cons_succ, List.getElem_cons_zero, Act.put, List.setIfInBounds_toArray, List.set_cons_zero, List.set_cons_succ]
            -- 19: Op.move (Operand.tmp 102)
            refine' anyZ_pure (i := 19) (v := _) rfl (by rfl) (by kernel_rfl) (by kernel_rfl) (by kernel_rfl) hcl19 (fun _ _ _ h => h) (Or.inl ⟨by rfl, fun w _ => ?hv20⟩) (fun _ => hHeld) (fun hcl20 => ?rv20)
            case hv20 => (simp only [List.getElem_toArray, List.getElem_cons_succ, List.getElem_cons_zero]; first | (go_simp; with_reducible rfl) | (go_simp; done) | rfl)
            simp only [List.getElem_toArray, List.getElem_cons_succ, List.getElem_cons_zero, Act.put, List.setIfInBounds_toArray, List.set_cons_zero, List.set_cons_succ]
            -- 20: Op.move (Operand.tmp 5)
            refine' anyZ_pure (i := 20) (v := _) rfl (by rfl) (by kernel_rfl) (by kernel_rfl) (by kernel_rfl) hcl20 (fun _ _ _ h => h) (Or.inl ⟨by rfl, fun w _ => ?hv21⟩) (fun _ => hHeld) (fun hcl21 => ?rv21)
            case hv21 => (simp only [List.getElem_toArray, List.getElem_cons_succ, List.getElem_cons_zero]; first | (go_simp; with_reducible rfl) | (go_simp; done) | rfl)
            simp only [List.getElem_toArray, List.getElem_cons_succ, List.getElem_cons_zero, Act.put, List.setIfInBounds_toArray, List.set_cons_zero, List.set_cons_succ]
            -- 21: Op.move (Operand.tmp 1)
            refine' anyZ_pure (i := 21) (v := _) rfl (by rfl) (by kernel_rfl) (by kernel_rfl) (by kernel_rfl) hcl21 (fun _ _ _ h => h) (Or.inl ⟨by rfl, fun w _ => ?hv22⟩) (fun _ => hHeld) (fun hcl22 => ?rv22)
            case hv22 => (simp only [List.getElem_toArray, List.getElem_cons_succ, List.getElem_cons_zero]; first | (go_simp; with_reducible rfl) | (go_simp; done) | rfl)
            simp only [List.getElem_toArray, List.getElem_cons_succ, List.getElem_cons_zero, Act.put, List.setIfInBounds_toArray, List.set_cons_zero, List.set_cons_succ]
            clear hHeld
            refine anyZ_chain_at (by kernel_rfl) ?_
            simp only [List.drop_succ_cons, List.drop_zero]
            go_wp2_with fail
            refine (ardrop_any g b (lessR l ws) x _ (HA18.out.below (bdr (bre wr))) hx).mono ?_
            rintro e w19 ⟨rfl, -, ho19⟩
            have HB19 : Hid (Below w.heap.size w w19) := Lib.hid (HB18.out.drew.trans (ho19.below _ HB18.out.size fun i hi e => by have e2 : i = b := e; have := HLOW.out; omega))
            rw [show walkOf (lessR l ws) x = [] by rw [HWS.out]; exact walk_twice l x]
            clear ho19
            go_wp2_with fail
            go_ret
            exact ⟨rfl, HB19.out⟩
          · have k0 : ((KL : Int) == 0) = false := beq_false_of_ne (by omega)
            have k1 : decide ((KL : Int) = 0) = false := decide_eq_false (by omega)
            have k2 : (KL == 0) = false := beq_false_of_ne hK0
            have k3 : (0 : Int) < (KL : Int) := by omega
            have k4 : 0 < KL := by omega
            obtain ⟨y, hy⟩ : ∃ y, (bump 7 nd.kids)[0]? = some y := ⟨_, List.getElem?_eq_getElem (by rw [bump_len, ← HKL.out]; omega)⟩
            obtain ⟨y2, hy2⟩ : ∃ z, z = (y + 1) % 18446744073709551616 := ⟨_, rfl⟩
            have hyl : y < 18446744073709551616 := bump_lt 7 nd.kids y (List.mem_of_getElem? hy)
            have hz : (bump 1 (bump 7 nd.kids))[0]? = some y2 := by
              have h1 : (bump 1 (bump 7 nd.kids))[0]? = ((bump 7 nd.kids)[0]?).map fun y => (y + 1) % 18446744073709551616 := by
                show (List.map _ (bump 7 nd.kids))[0]? = _
                rw [List.getElem?_map]
              rw [h1, hy, hy2]
              rfl
            have hne : ((y : Int) != (y2 : Int)) = true := by rw [bne_iff_ne]; omega
            have hne2 : decide ((y : Int) = (y2 : Int)) = false := decide_eq_false (by omega)
            have hne3 : ((y : Int) == (y2 : Int)) = false := beq_false_of_ne (by omega)
            have hne4 : (y != y2) = true := by rw [bne_iff_ne]; omega
            have hne5 : decide (y = y2) = false := decide_eq_false (by omega)
            have hne6 : (y == y2) = false := beq_false_of_ne (by omega)
            obtain ⟨gk, rfl⟩ : ∃ gk, ka = some ⟨gk, 0, none⟩ := by
              obtain ⟨-, h2 | ⟨q, cap, cur, e2, -⟩⟩ := HK18.out
              · exact absurd h2.2 (by rw [bump_len]; have := HKL.out; omega)
              · injection e2 with e2; exact ⟨q, e2⟩
            obtain ⟨gm, rfl⟩ : ∃ gm, ma = some ⟨gm, 0, none⟩ := by
              obtain ⟨-, h2 | ⟨q, cap, cur, e2, -⟩⟩ := HM18.out
              · exact absurd h2.2 (by rw [bump_len, bump_len]; have := HKL.out; omega)
              · injection e2 with e2; exact ⟨q, e2⟩
            have s1 : wr.drew.cell? ⟨n9, 5, none⟩ = some (.slice (some ⟨gk, 0, none⟩) KL kc) := HR18.out.c5
            have s2 : wr.drew.cell? ⟨gk, 0, none⟩ = some (.int .u64 y) := (HK18.out.cell hy).1
            have s3 : wr.drew.cell? ⟨n12, 5, none⟩ = some (.slice (some ⟨gm, 0, none⟩) KL mc) := HRM.out.c5
            have s4 : wr.drew.cell? ⟨gm, 0, none⟩ = some (.int .u64 y2) := (HM18.out.cell hz).1
            have HSB := Lib.hid (And.intro s1 (And.intro s2 (And.intro s3 s4)))
            clear s1 s2 s3 s4 hy hz hy2 hyl
            refine region_anyZ (z := 22) (S := fun w' => w'.cell? ⟨n9, 5, none⟩ = some (.slice (some ⟨gk, 0, none⟩) KL kc) ∧ w'.cell? ⟨gk, 0, none⟩ = some (.int .u64 y) ∧ w'.cell? ⟨n12, 5, none⟩ = some (.slice (some ⟨gm, 0, none⟩) KL mc) ∧ w'.cell? ⟨gm, 0, none⟩ = some (.int .u64 y2)) (by kernel_rfl) ?_
            refine anyZ_begin (fun hcl0 => ?_)
            refine anyZ_held (by exact HSB.out) (fun hHeld => ?_)
            -- 0: Op.move (Operand.tmp 10)
            refine' anyZ_pure (i := 0) (v := _) rfl (by rfl) (by kernel_rfl) (by kernel_rfl) (by kernel_rfl) hcl0 (fun _ _ _ h => h) (Or.inl ⟨by rfl, fun w _ => ?ht1⟩) (fun _ => hHeld) (fun hcl1 => ?rt1)
            case ht1 => (simp only [List.getElem_toArray, List.getElem_cons_zero]; first | (go_simp; with_reducible rfl) | (go_simp; done) | rfl)
            simp only [List.getElem_toArray, List.getElem_cons_zero, Act.put, List.setIfInBounds_toArray, List.set_cons_zero, List.set_cons_succ]
            -- 1: Op.unOp UnOp.not 4 (Operand.tmp 84)
            refine' anyZ_pure (i := 1) (v := _) rfl (by rfl) (by kernel_rfl) (by kernel_rfl) (by kernel_rfl) hcl1 (fun _ _ _ h => h) (Or.inl ⟨by rfl, fun w _ => ?ht2⟩) (fun _ => hHeld) (fun hcl2 => ?rt2)
            case ht2 => (simp only [List.getElem_toArray, List.getElem_cons_succ, List.getElem_cons_zero]; first | (go_simp; with_reducible rfl) | (go_simp; done) | rfl)
            simp only [List.getElem_toArray, List.getElem_cons_succ, List.getElem_cons_zero, Act.put, List.setIfInBounds_toArray, List.set_cons_zero, List.set_cons_succ]
            -- 2: Op.move (Operand.tmp 85)
            refine' anyZ_pure (i := 2) (v := _) rfl (by rfl) (by kernel_rfl) (by kernel_rfl) (by kernel_rfl) hcl2 (fun _ _ _ h => h) (Or.inl ⟨by rfl, fun w _ => ?ht3⟩) (fun _ => hHeld) (fun hcl3 => ?rt3)
            case ht3 => (simp only [List.getElem_toArray, List.getElem_cons_succ, List.getElem_cons_zero]; first | (go_simp; with_reducible rfl) | (go_simp; done) | rfl)
            simp only [List.getElem_toArray, List.getElem_cons_succ, List.getElem_cons_zero, Act.put, List.setIfInBounds_toArray, List.set_cons_zero, List.set_cons_succ]
            -- 3: Op.fieldAddr 29 (Operand.tmp 9) 5
            refine' anyZ_pure (i := 3) (v := _) rfl (by rfl) (by kernel_rfl) (by kernel_rfl) (by kernel_rfl) hcl3 (fun _ _ _ h => h) (Or.inl ⟨by rfl, fun w _ => ?ht4⟩) (fun _ => hHeld) (fun hcl4 => ?rt4)
            case ht4 => (simp only [List.getElem_toArray, List.getElem_cons_succ, List.getElem_cons_zero]; first | (go_simp; with_reducible rfl) | (go_simp; done) | rfl)
            simp only [List.getElem_toArray, List.getElem_cons_succ, List.getElem_cons_zero, Act.put, List.setIfInBounds_toArray, List.set_cons_zero, List.set_cons_succ]
            -- 4: Op.load 27 (Operand.tmp 87)
            refine' anyZ_take (i := 4) (v := _) rfl (by rfl) (by kernel_rfl) (by kernel_rfl) (by kernel_rfl) hcl4 20 (by kernel_rfl) (by kernel_rfl) (fun _ _ _ h => h) (Or.inl ⟨by rfl, fun w hSw => ?ht5⟩) hHeld (fun hcl5 => ?rt5)
            case ht5 => (simp only [List.getElem_toArray, List.getElem_cons_succ, List.getElem_cons_zero]; obtain ⟨hS1, hS2, hS3, hS4⟩ := hSw; first | (go_simp; with_reducible rfl) | (go_simp; done) | rfl)
            simp only [List.getElem_toArray, List.getElem_cons_succ, List.getElem_cons_zero, Act.put, List.setIfInBounds_toArray, List.set_cons_zero, List.set_cons_succ]
            -- 5: Op.call { callee := Callee.builtin Builtin.len, args := #[Op
            refine' anyZ_pure (i := 5) (v := _) rfl (by rfl) (by kernel_rfl) (by kernel_rfl) (by kernel_rfl) hcl5 (fun _ _ _ h => h) (Or.inl ⟨by rfl, fun w _ => ?ht6⟩) (fun _ => hHeld) (fun hcl6 => ?rt6)
            case ht6 => (simp only [List.getElem_toArray, List.getElem_cons_succ, List.getElem_cons_zero]; first | (go_simp; with_reducible rfl) | (go_simp; done) | rfl)
            simp only [List.getElem_toArray, List.getElem_cons_succ, List.getElem_cons_zero, Act.put, List.setIfInBounds_toArray, List.set_cons_zero, List.set_cons_succ]
            -- 6: Op.binOp BinOp.eql 3 (Operand.tmp 89) (Operand.const (Value.
            refine' anyZ_pure (i := 6) (v := _) rfl (by rfl) (by kernel_rfl) (by kernel_rfl) (by kernel_rfl) hcl6 (fun _ _ _ h => h) (Or.inl ⟨by rfl, fun w _ => ?ht7⟩) (fun _ => hHeld) (fun hcl7 => ?rt7)
            case ht7 => (simp only [List.getElem_toArray, List.getElem_cons_succ, List.getElem_cons_zero]; first | (go_simp; with_reducible rfl) | (go_simp; done) | rfl)
            simp only [List.getElem_toArray, List.getElem_cons_succ, List.getElem_cons_zero, Act.put, List.setIfInBounds_toArray, List.set_cons_zero, List.set_cons_succ]
            -- 7: Op.pick (Operand.tmp 86) (Operand.const (Value.bool true)) (
            refine' anyZ_pure (i := 7) (v := _) rfl (by rfl) (by kernel_rfl) (by kernel_rfl) (by kernel_rfl) hcl7 (fun _ _ _ h => h) (Or.inl ⟨by rfl, fun w _ => ?ht8⟩) (fun _ => hHeld) (fun hcl8 => ?rt8)
            case ht8 => (simp only [List.getElem_toArray, List.getElem_cons_succ, List.getElem_cons_zero]; first | (go_simp; with_reducible rfl) | (go_simp; done) | rfl)
            simp only [List.getElem_toArray, List.getElem_cons_succ, List.getElem_cons_zero, Act.put, List.setIfInBounds_toArray, List.set_cons_zero, List.set_cons_succ]
            -- 8: Op.move (Operand.tmp 91)
            refine' anyZ_pure (i := 8) (v := _) rfl (by rfl) (by kernel_rfl) (by kernel_rfl) (by kernel_rfl) hcl8 (fun _ _ _ h => h) (Or.inl ⟨by rfl, fun w _ => ?ht9⟩) (fun _ => hHeld) (fun hcl9 => ?rt9)
            case ht9 => (simp only [List.getElem_toArray, List.getElem_cons_succ, List.getElem_cons_zero]; first | (go_simp; with_reducible rfl) | (go_simp; done) | rfl)
            simp only [List.getElem_toArray, List.getElem_cons_succ, List.getElem_cons_zero, Act.put, List.setIfInBounds_toArray, List.set_cons_zero, List.set_cons_succ]
            -- 9: Op.fieldAddr 29 (Operand.tmp 9) 5
            refine' anyZ_pure (i := 9) (v := _) rfl (by rfl) (by kernel_rfl) (by kernel_rfl) (by kernel_rfl) hcl9 (fun _ _ _ h => h) (Or.inl ⟨by rfl, fun w _ => ?ht10⟩) (fun _ => hHeld) (fun hcl10 => ?rt10)
            case ht10 => (simp only [List.getElem_toArray, List.getElem_cons_succ, List.getElem_cons_zero]; first | (go_simp; with_reducible rfl) | (go_simp; done) | rfl)
            simp only [List.getElem_toArray, List.getElem_cons_succ, List.getElem_cons_zero, Act.put, List.setIfInBounds_toArray, List.set_cons_zero, List.set_cons_succ]
            -- 10: Op.load 27 (Operand.tmp 93)
            refine' anyZ_take (i := 10) (v := _) rfl (by rfl) (by kernel_rfl) (by kernel_rfl) (by kernel_rfl) hcl10 20 (by kernel_rfl) (by kernel_rfl) (fun _ _ _ h => h) (Or.inl ⟨by rfl, fun w hSw => ?ht11⟩) hHeld (fun hcl11 => ?rt11)
            case ht11 => (simp only [List.getElem_toArray, List.getElem_cons_succ, List.getElem_cons_zero]; obtain ⟨hS1, hS2, hS3, hS4⟩ := hSw; first | (go_simp; with_reducible rfl) | (go_simp; done) | rfl)
            simp only [List.getElem_toArray, List.getElem_cons_succ, List.getElem_cons_zero, Act.put, List.setIfInBounds_toArray, List.set_cons_zero, List.set_cons_succ]
            -- 11: Op.indexAddr 27 (Operand.tmp 94) (Operand.const (Value.int I
            refine' anyZ_pure (i := 11) (v := _) rfl (by rfl) (by kernel_rfl) (by kernel_rfl) (by kernel_rfl) hcl11 (fun _ _ _ h => h) (Or.inl ⟨by rfl, fun w _ => ?ht12⟩) (fun _ => hHeld) (fun hcl12 => ?rt12)
            case ht12 => (simp only [List.getElem_toArray, List.getElem_cons_succ, List.getElem_cons_zero]; first | (go_simp; with_reducible rfl) | (go_simp; done) | rfl)
            simp only [List.getElem_toArray, List.getElem_cons_succ, List.getElem_cons_zero, Act.put, List.setIfInBounds_toArray, List.set_cons_zero, List.set_cons_succ]
            -- 12: Op.load 26 (Operand.tmp 95)
            refine' anyZ_take (i := 12) (v := _) rfl (by rfl) (by kernel_rfl) (by kernel_rfl) (by kernel_rfl) hcl12 20 (by kernel_rfl) (by kernel_rfl) (fun _ _ _ h => h) (Or.inl ⟨by rfl, fun w hSw => ?ht13⟩) hHeld (fun hcl13 => ?rt13)
            case ht13 => (simp only [List.getElem_toArray, List.getElem_cons_succ, List.getElem_cons_zero]; obtain ⟨hS1, hS2, hS3, hS4⟩ := hSw; first | (go_simp; with_reducible rfl) | (go_simp; done) | rfl)
            simp only [List.getElem_toArray, List.getElem_cons_succ, List.getElem_cons_zero, Act.put, List.setIfInBounds_toArray, List.set_cons_zero, List.set_cons_succ]
            -- 13: Op.fieldAddr 29 (Operand.tmp 12) 5
            refine' anyZ_pure (i := 13) (v := _) rfl (by rfl) (by kernel_rfl) (by kernel_rfl) (by kernel_rfl) hcl13 (fun _ _ _ h => h) (Or.inl ⟨by rfl, fun w _ => ?ht14⟩) (fun _ => hHeld) (fun hcl14 => ?rt14)
            case ht14 => (simp only [List.getElem_toArray, List.getElem_cons_succ, List.getElem_cons_zero]; first | (go_simp; with_reducible rfl) | (go_simp; done) | rfl)
            simp only [List.getElem_toArray, List.getElem_cons_succ, List.getElem_cons_zero, Act.put, List.setIfInBounds_toArray, List.set_cons_zero, List.set_cons_succ]
            -- 14: Op.load 27 (Operand.tmp 97)
            refine' anyZ_take (i := 14) (v := _) rfl (by rfl) (by kernel_rfl) (by kernel_rfl) (by kernel_rfl) hcl14 20 (by kernel_rfl) (by kernel_rfl) (fun _ _ _ h => h) (Or.inl ⟨by rfl, fun w hSw => ?ht15⟩) hHeld (fun hcl15 => ?rt15)
            case ht15 => (simp only [List.getElem_toArray, List.getElem_cons_succ, List.getElem_cons_zero]; obtain ⟨hS1, hS2, hS3, hS4⟩ := hSw; first | (go_simp; with_reducible rfl) | (go_simp; done) | rfl)
            simp only [List.getElem_toArray, List.getElem_cons_succ, List.getElem_cons_zero, Act.put, List.setIfInBounds_toArray, List.set_cons_zero, List.set_cons_succ]
            -- 15: Op.indexAddr 27 (Operand.tmp 98) (Operand.const (Value.int I
            refine' anyZ_pure (i := 15) (v := _) rfl (by rfl) (by kernel_rfl) (by kernel_rfl) (by kernel_rfl) hcl15 (fun _ _ _ h => h) (Or.inl ⟨by rfl, fun w _ => ?ht16⟩) (fun _ => hHeld) (fun hcl16 => ?rt16)
            case ht16 => (simp only [List.getElem_toArray, List.getElem_cons_succ, List.getElem_cons_zero]; first | (go_simp; with_reducible rfl) | (go_simp; done) | rfl)
            simp only [List.getElem_toArray, List.getElem_cons_succ, List.getElem_cons_zero, Act.put, List.setIfInBounds_toArray, List.set_cons_zero, List.set_cons_succ]
            -- 16: Op.load 26 (Operand.tmp 99)
            refine' anyZ_take (i := 16) (v := _) rfl (by rfl) (by kernel_rfl) (by kernel_rfl) (by kernel_rfl) hcl16 20 (by kernel_rfl) (by kernel_rfl) (fun _ _ _ h => h) (Or.inl ⟨by rfl, fun w hSw => ?ht17⟩) hHeld (fun hcl17 => ?rt17)
            case ht17 => (simp only [List.getElem_toArray, List.getElem_cons_succ, List.getElem_cons_zero]; obtain ⟨hS1, hS2, hS3, hS4⟩ := hSw; first | (go_simp; with_reducible rfl) | (go_simp; done) | rfl)
            simp only [List.getElem_toArray, List.getElem_cons_succ, List.getElem_cons_zero, Act.put, List.setIfInBounds_toArray, List.set_cons_zero, List.set_cons_succ]
            -- 17: Op.binOp BinOp.neq 26 (Operand.tmp 96) (Operand.tmp 100) 26
            refine' anyZ_pure (i := 17) (v := _) rfl (by rfl) (by kernel_rfl) (by kernel_rfl) (by kernel_rfl) hcl17 (fun _ _ _ h => h) (Or.inl ⟨by rfl, fun w _ => ?ht18⟩) (fun _ => hHeld) (fun hcl18 => ?rt18)
            case ht18 => (simp only [List.getElem_toArray, List.getElem_cons_succ, List.getElem_cons_zero]; first | (go_simp; with_reducible rfl) | (go_simp; done) | rfl)
            simp only [List.getElem_toArray, List.getElem_cons_succ, List.getElem_cons_zero, Act.put, List.setIfInBounds_toArray, List.set_cons_zero, List.set_cons_succ]
            -- 18: Op.pick (Operand.tmp 92) (Operand.const (Value.bool true)) (
            refine' anyZ_pure (i := 18) (v := _) rfl (by rfl) (by kernel_rfl) (by kernel_rfl) (by kernel_rfl) hcl18 (fun _ _ _ h => h) (Or.inl ⟨by rfl, fun w _ => ?ht19⟩) (fun _ => hHeld) (fun hcl19 => ?rt19)
            case ht19 => (simp only [List.getElem_toArray, List.getElem_cons_succ, List.getElem_cons_zero]; first | (go_simp; with_reducible rfl) | (go_simp; done) | rfl)
            simp only [List.getElem_toArray, List.getElem_cons_succ, List.getElem_cons_zero, Act.put, List.setIfInBounds_toArray, List.set_cons_zero, List.set_cons_succ]
            -- 19: Op.move (Operand.tmp 102)
            refine' anyZ_pure (i := 19) (v := _) rfl (by rfl) (by kernel_rfl) (by kernel_rfl) (by kernel_rfl) hcl19 (fun _ _ _ h => h) (Or.inl ⟨by rfl, fun w _ => ?ht20⟩) (fun _ => hHeld) (fun hcl20 => ?rt20)
            case ht20 => (simp only [List.getElem_toArray, List.getElem_cons_succ, List.getElem_cons_zero]; first | (go_simp; with_reducible rfl) | (go_simp; done) | rfl)
            simp only [List.getElem_toArray, List.getElem_cons_succ, List.getElem_cons_zero, Act.put, List.setIfInBounds_toArray, List.set_cons_zero, List.set_cons_succ]
            -- 20: Op.move (Operand.tmp 5)
            refine' anyZ_pure (i := 20) (v := _) rfl (by rfl) (by kernel_rfl) (by kernel_rfl) (by kernel_rfl) hcl20 (fun _ _ _ h => h) (Or.inl ⟨by rfl, fun w _ => ?ht21⟩) (fun _ => hHeld) (fun hcl21 => ?rt21)
            case ht21 => (simp only [List.getElem_toArray, List.getElem_cons_succ, List.getElem_cons_zero]; first | (go_simp; with_reducible rfl) | (go_simp; done) | rfl)
            simp only [List.getElem_toArray, List.getElem_cons_succ, List.getElem_cons_zero, Act.put, List.setIfInBounds_toArray, List.set_cons_zero, List.set_cons_succ]
            -- 21: Op.move (Operand.tmp 1)
            refine' anyZ_pure (i := 21) (v := _) rfl (by rfl) (by kernel_rfl) (by kernel_rfl) (by kernel_rfl) hcl21 (fun _ _ _ h => h) (Or.inl ⟨by rfl, fun w _ => ?ht22⟩) (fun _ => hHeld) (fun hcl22 => ?rt22)
            case ht22 => (simp only [List.getElem_toArray, List.getElem_cons_succ, List.getElem_cons_zero]; first | (go_simp; with_reducible rfl) | (go_simp; done) | rfl)
            simp only [List.getElem_toArray, List.getElem_cons_succ, List.getElem_cons_zero, Act.put, List.setIfInBounds_toArray, List.set_cons_zero, List.set_cons_succ]
            clear hHeld
            refine anyZ_chain_at (by kernel_rfl) ?_
            simp only [List.drop_succ_cons, List.drop_zero]
            go_wp2_with fail
            refine (ardrop_any g b (lessR l ws) x _ (HA18.out.below (bdr (bre wr))) hx).mono ?_
            rintro e w19 ⟨rfl, -, ho19⟩
            have HB19 : Hid (Below w.heap.size w w19) := Lib.hid (HB18.out.drew.trans (ho19.below _ HB18.out.size fun i hi e => by have e2 : i = b := e; have := HLOW.out; omega))
            rw [show walkOf (lessR l ws) x = [] by rw [HWS.out]; exact walk_twice l x]
            clear ho19
            go_wp2_with fail
            go_ret
            exact ⟨rfl, HB19.out⟩
end Go.Proofs.Ytnbncjebmlicgaa
