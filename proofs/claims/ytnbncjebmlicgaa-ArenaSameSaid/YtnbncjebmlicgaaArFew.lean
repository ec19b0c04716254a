/- Walk: few. -/
import Derived.Test.YtnbncjebmlicgaaArRows
namespace Go.Proofs.Ytnbncjebmlicgaa
open Go.RowKit

def fewN (n : Nd) : Nd := ⟨n.kind, firstOf n.name 64, n.num, n.typ, n.ref, n.kids.take 12⟩
theorem firstOf_size (s : ByteArray) (k : Nat) : (firstOf s k).size ≤ k := by
  unfold firstOf
  rw [ByteArray.size_extract]
  omega
theorem fewN_ok {n : Nd} (h : n.Okw) : (fewN n).Ok := ⟨h.kind, h.typ, h.ref, h.num, Nat.le_trans (firstOf_size _ _) (by decide), by show (n.kids.take 12).length ≤ _; rw [List.length_take]; omega, fun x hx => h.ids x (List.mem_of_mem_take hx)⟩

theorem min_twelve {r : Int} {n : Nat} (h : Hid (r = if (12 : Int) < n then 12 else (n : Int))) : ∃ s : Nat, r = (s : Int) ∧ s = min n 12 := by
  have h' := h.out
  refine ⟨min n 12, ?_, rfl⟩
  rw [h']
  split <;> omega
theorem Ids.firsts {w : World} {a : Option Addr} {c : Nat} {l : List Nat} (h : Ids w (.slice a l.length c) l) (k : Nat) (hk : k ≤ l.length) : Ids w (.slice a k c) (l.take k) := by
  obtain ⟨a', c', e, hm, hc, hn, hr⟩ := h
  cases e
  have hl : (l.take k).length = k := by rw [List.length_take]; omega
  refine ⟨a, c, by rw [hl], by rw [hl]; omega, by rw [hl]; omega, hn, ?_⟩
  rcases hr with h0 | ⟨g, o, ha, hr⟩
  · exact .inl (by rw [h0]; simp)
  · refine .inr ⟨g, o, ha, fun j x hx => hr j x ?_⟩
    rw [List.getElem?_take] at hx
    split at hx
    · exact hx
    · cases hx

set_option maxRecDepth 10000 in
set_option maxHeartbeats 1600000 in
theorem few_any (n : Nd) (a : Option Addr) (c : Nat) (w : World) (hk : Ids w (.slice a n.kids.length c) n.kids) (ok : n.Okw) :
    Calls Try.prog 17 #[NdVal n (.slice a n.kids.length c)] w fun e w' => ∃ v', e = .returned v' ∧ OwnNd w.heap.size w' v' (fewN n) ∧ Below w.heap.size w w' := by
  have HK := Lib.hid hk
  have HOK := Lib.hid ok
  have hnm := ok.name
  unfold NdVal
  obtain ⟨L, hL⟩ : ∃ L, L = n.kids.length := ⟨_, rfl⟩
  have hLm : L ≤ 9223372036854775807 := by
    obtain ⟨_, _, -, hm, -⟩ := hk
    rw [hL]; exact hm
  have hLc : L ≤ c := by
    obtain ⟨_, _, e, -, hc, -⟩ := hk
    cases e
    rw [hL]; exact hc
  rw [← hL] at HK ⊢
  have HL := Lib.hid hL
  clear hk ok hL
  go_enter Try.func17, Try.ntmps17
  go_upto_region 1 with fail
  have hb0 := bal (bal (bre w) (.cells #[.int .u8 n.kind, .string n.name, .int .i64 n.num, .int .u8 n.typ, .int .u64 n.ref, .slice a L c] 29)) (.cells #[.int .u8 0, .string ⟨#[]⟩, .int .i64 0, .int .u8 0, .int .u64 0, .slice none 0 0] 29)
  obtain ⟨hr1, hr2⟩ := two_new w (.cells #[.int .u8 n.kind, .string n.name, .int .i64 n.num, .int .u8 n.typ, .int .u64 n.ref, .slice a L c] 29) (.cells #[.int .u8 0, .string ⟨#[]⟩, .int .i64 0, .int .u8 0, .int .u64 0, .slice none 0 0] 29)
  generalize (w.alloc (.cells #[.int .u8 n.kind, .string n.name, .int .i64 n.num, .int .u8 n.typ, .int .u64 n.ref, .slice a L c] 29)).alloc (.cells #[.int .u8 0, .string ⟨#[]⟩, .int .i64 0, .int .u8 0, .int .u64 0, .slice none 0 0] 29) = W at *
  obtain ⟨n1, hn1⟩ : ∃ n, n = w.heap.size := ⟨_, rfl⟩
  rw [← hn1] at hr1 hr2 ⊢
  obtain ⟨n2, hn2⟩ : ∃ n, n = n1 + 1 := ⟨_, rfl⟩
  rw [← hn2] at hr2
  try rw [← hn2]
  have hR1 : Row6 W n1 n (.slice a L c) := hr1
  have hR2 : Row6 W n2 .zero (.slice none 0 0) := hr2
  have HB0 := Lib.hid hb0
  have HR1 := Lib.hid hR1
  have HR2 := Lib.hid hR2
  have HN1 : Hid (w.heap.size ≤ n1) := Lib.hid (by omega)
  have HN2 : Hid (w.heap.size ≤ n2) := Lib.hid (by omega)
  have HNE : Hid (¬ n2 = n1) := Lib.hid (by omega)
  have y1 := hR1.c1
  have y5 := hR1.c5
  have yf := hR1.fz
  clear hb0 hr1 hr2 hR1 hR2 hn1 hn2
  go_wp2_with fail
  refine (text_any n.name 64 W (by unfold maxLen at hnm; omega) (by decide)).mono ?_
  rintro e w1 ⟨rfl, hw⟩
  have hw' := hw.symm
  subst hw'
  clear hw
  go_upto_region 2 with fail
  obtain ⟨m, hm⟩ : ∃ m : Nd, m = ⟨n.kind, firstOf n.name 64, n.num, n.typ, n.ref, n.kids⟩ := ⟨_, rfl⟩
  have hr3 : Row6 (W.setCell ⟨n1, 1, none⟩ (.string (firstOf n.name 64))) n1 m (.slice a L c) := by rw [hm]; exact heap_setCell_same W n1 1 _ _ _ HR1.out
  have hr4 : Row6 (W.setCell ⟨n1, 1, none⟩ (.string (firstOf n.name 64))) n2 .zero (.slice none 0 0) := HR2.out.only (Only.setCell W ⟨n1, 1, none⟩ _) HNE.out
  have hb3 : Below w.heap.size w (W.setCell ⟨n1, 1, none⟩ (.string (firstOf n.name 64))) := HB0.out.setCell HN1.out _
  generalize W.setCell ⟨n1, 1, none⟩ (.string (firstOf n.name 64)) = w3 at *
  have HR3 := Lib.hid hr3
  have HR4 := Lib.hid hr4
  have HB3 := Lib.hid hb3
  have z5 := hr3.c5
  have zf := hr3.fz
  have HM := Lib.hid hm
  clear hr3 hr4 hb3 hm y1 y5 yf HR1 HR2 HB0
  have hbe := bal (bre w3) (.cells #[] 26)
  have hids : Ids (w3.alloc (.cells #[] 26)) (.slice a n.kids.length c) n.kids := by
    have := HK.out.below (btr HB3.out hbe)
    rwa [HL.out] at this
  have HLI : Hid (∀ k, k ≤ L → Lies (w3.alloc (.cells #[] 26)) a ((n.kids.take k).map U64)) := Lib.hid fun k hk => by
    obtain ⟨a', c', e, -, -, -, hl⟩ := (hids.firsts k (by rw [← HL.out]; exact hk)).lies
    have : a' = a := by injection e with h; exact h.symm
    rw [← this]
    exact hl
  have HNIL : Hid (a = none → c = 0) := Lib.hid (by
    obtain ⟨a', c', e, -, -, hn, -⟩ := hids.lies
    injection e with h1 _ h3
    rw [h1, h3]
    exact hn)
  have HOWN := Lib.hid (own_none w3 26)
  have HLB := Lib.hid (And.intro hLm hLc)
  have hsz := hbe.size
  have HBE := Lib.hid hbe
  have z5a := (HR3.out.below hbe).c5
  clear hids hbe hLm hLc hnm z5 zf
  go_upto_region 3 with first
    | (with_reducible refine wpList_min rfl _ _ _ rfl _ _ _ rfl rfl ?_; intro r hr; obtain ⟨sx, rfl, hsx⟩ := min_twelve hr; have HSX := Lib.hid hsx; have hsx1 : sx ≤ c := (by have := HLB.out.2; omega); have hsx2 : (sx : Int) ≤ (c : Int) := (by omega); clear hr hsx)
    | (at_builtin; refine wpList_app rfl _ _ 27 26 1 8 rowI rfl w3.heap.size _ 0 [] rfl HOWN.out a sx c ((n.kids.take sx).map U64) rfl (by rw [List.length_map, List.length_take, ← HL.out]; have := HSX.out; omega) (HLI.out sx (by have := HSX.out; omega)) hsx1 HNIL.out (U64_one _) (by unfold maxLen; have := HSX.out; omega) (by have := HSX.out; omega) hsz ?_; intro v5 w5 ho5 _ hb5; obtain ⟨a5, c5, rfl, -⟩ := ownsRow_lies ho5; have HO5 := Lib.hid ho5; have HB5 := Lib.hid (HBE.out.trans hb5); have z6 := (HR3.out.below HB5.out).c5; have z7 := (HR3.out.below HB5.out).fz; clear ho5 hb5)
  have hb5 := btr HB3.out HB5.out
  have hr5 := HR3.out.below HB5.out
  obtain ⟨m5, hm5⟩ : ∃ q : Nd, q = fewN n := ⟨_, rfl⟩
  have hr6 : Row6 (w5.setCell ⟨n1, 5, none⟩ (.slice a5 sx c5)) n1 m5 (.slice a5 sx c5) := by
    have := heap_setCell_same w5 n1 5 _ _ (.slice a5 sx c5) hr5
    rw [HM.out] at this
    rw [hm5]
    exact this
  have hr7 : Row6 (w5.setCell ⟨n1, 5, none⟩ (.slice a5 sx c5)) n2 .zero (.slice none 0 0) := (HR4.out.below HB5.out).only (Only.setCell w5 ⟨n1, 5, none⟩ _) HNE.out
  have hb6 : Below w.heap.size w (w5.setCell ⟨n1, 5, none⟩ (.slice a5 sx c5)) := hb5.setCell HN1.out _
  have hkl : (n.kids.take sx).length = sx := by rw [List.length_take, ← HL.out]; have := HSX.out; omega
  have hk5 : OwnIds w3.heap.size w5 (.slice a5 sx c5) m5.kids := by
    have h9 := HO5.out
    rw [Nat.zero_add, List.nil_append] at h9
    have e9 : m5.kids = n.kids.take sx := by
      rw [hm5]
      show n.kids.take 12 = n.kids.take sx
      rw [HSX.out, HL.out]
      rcases Nat.le_total n.kids.length 12 with h | h
      · rw [Nat.min_eq_left h, List.take_of_length_le (Nat.le_refl _), List.take_of_length_le h]
      · rw [Nat.min_eq_right h]
    unfold OwnIds
    rw [e9, hkl]
    exact h9
  have ho6 := hk5.only (Only.setCell w5 ⟨n1, 5, none⟩ (.slice a5 sx c5)) (fun k hk cs fr e => by cases hk; rw [hr5] at e; cases e)
  generalize w5.setCell ⟨n1, 5, none⟩ (.slice a5 sx c5) = w6 at *
  have HR7 := Lib.hid hr7
  have HB6 := Lib.hid hb6
  have HO6 := Lib.hid ho6
  have HM5 := Lib.hid hm5
  have q0 := hr6.c0
  have q1 := hr6.c1
  have q2 := hr6.c2
  have q3 := hr6.c3
  have q4 := hr6.c4
  have q5 := hr6.c5
  have p0 := hr7.c0
  have p1 := hr7.c1
  have p2 := hr7.c2
  have p3 := hr7.c3
  have p4 := hr7.c4
  have p5 := hr7.c5
  have pf := hr7.fz
  clear hb5 hr5 hr6 hr7 hb6 hkl hk5 ho6 hm5 z5a z6 z7
  go_wp2_with fail
  have hrow := HR7.out.put m5 (.slice a5 sx c5)
  have hbel := put6_below HB6.out HN2.out m5 (.slice a5 sx c5)
  have hown := HO6.out.only (put6_only w6 n2 m5 (.slice a5 sx c5)) (fun k hk cs fr e => by cases hk; rw [HR7.out] at e; cases e)
  generalize (((((w6.setCell ⟨n2, 0, none⟩ (.int .u8 m5.kind)).setCell ⟨n2, 1, none⟩ (.string m5.name)).setCell ⟨n2, 2, none⟩ (.int .i64 m5.num)).setCell ⟨n2, 3, none⟩ (.int .u8 m5.typ)).setCell ⟨n2, 4, none⟩ (.int .u64 m5.ref)).setCell ⟨n2, 5, none⟩ (.slice a5 sx c5) = W9 at *
  have d0 := hrow.c0
  have d1 := hrow.c1
  have d2 := hrow.c2
  have d3 := hrow.c3
  have d4 := hrow.c4
  have d5 := hrow.c5
  refine bodyPost_ret (v := NdVal m5 (.slice a5 sx c5)) (by simp [results, Try.results17, go_sem, d0, d1, d2, d3, d4, d5, NdVal]) rfl ?_
  exact ⟨_, rfl, by rw [← HM5.out]; exact ⟨_, rfl, hown.base HB3.out.size, by rw [HM5.out]; exact fewN_ok HOK.out⟩, hbel⟩
end Go.Proofs.Ytnbncjebmlicgaa
