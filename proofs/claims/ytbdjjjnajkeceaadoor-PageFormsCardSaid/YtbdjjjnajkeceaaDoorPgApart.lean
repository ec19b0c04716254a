/- PageApart, the walk. -/
import Derived.Test.YtbdjjjnajkeceaaDoorPgRooms
namespace Go.Proofs.YtbdjjjnajkeceaaDoor
open Go.RowKit

theorem pgSame_iff (a b : Pg) : pgSame a b = true ↔ a = b := by
  unfold pgSame
  obtain ⟨g, s, n, k, d⟩ := a
  obtain ⟨g', s', n', k', d'⟩ := b
  simp

theorem seal_tells (a b : Pg) (oa : a.Ok) (ob : b.Ok) (ka : a.kind ≠ 0) (kb : b.kind ≠ 0) (da : a.data.length ≤ 491) (db : b.data.length ≤ 491) : decide (seal8 a.raw = seal8 b.raw) = pgSame a b := by
  rw [Bool.eq_iff_iff, pgSame_iff, decide_eq_true_iff]
  constructor
  · intro h
    have h1 := parseOf_seal a oa ka da
    rw [h, parseOf_seal b ob kb db] at h1
    exact (Prod.mk.inj h1).2.symm
  · intro h; rw [h]

/-- a page made one that may be -/
def Pg.may (p : Pg) : Pg := { p with kind := max p.kind 1, data := p.data.take 491 }
theorem Pg.Ok.cut {p : Pg} (h : p.Ok) (n : Nat) : (p.cut n).Ok := ⟨h.gen, h.serial, h.number, h.kind⟩
theorem Pg.Ok.may {p : Pg} (h : p.Ok) : p.may.Ok := ⟨h.gen, h.serial, h.number, by have := h.kind; show max p.kind 1 < 256; omega⟩
theorem may_kind (p : Pg) : p.may.kind ≠ 0 := by show max p.kind 1 ≠ 0; omega
theorem may_data (p : Pg) : p.may.data.length ≤ 491 := by show (p.data.take 491).length ≤ 491; rw [List.length_take]; omega

/-- two pages' kinds and data are set -/
theorem two_put {x : World} {n m : Nat} {p q : Pg} {u v : Value} (hne : ¬ m = n) (hp : Row5 x n p u) (hq : Row5 x m q v) (p' q' : Pg) (u' v' : Value)
    (e1 : p'.gen = p.gen) (e2 : p'.serial = p.serial) (e3 : p'.number = p.number) (i1 : q'.gen = q.gen) (i2 : q'.serial = q.serial) (i3 : q'.number = q.number) :
    Row5 ((((x.setCell ⟨n, 3, none⟩ (.int .u8 p'.kind)).setCell ⟨m, 3, none⟩ (.int .u8 q'.kind)).setCell ⟨n, 4, none⟩ u').setCell ⟨m, 4, none⟩ v') n p' u' ∧
    Row5 ((((x.setCell ⟨n, 3, none⟩ (.int .u8 p'.kind)).setCell ⟨m, 3, none⟩ (.int .u8 q'.kind)).setCell ⟨n, 4, none⟩ u').setCell ⟨m, 4, none⟩ v') m q' v' ∧
    Only x ((((x.setCell ⟨n, 3, none⟩ (.int .u8 p'.kind)).setCell ⟨m, 3, none⟩ (.int .u8 q'.kind)).setCell ⟨n, 4, none⟩ u').setCell ⟨m, 4, none⟩ v') (fun k => k = n ∨ k = m) ∧
    ∀ B w, B ≤ n → B ≤ m → Below B w x → Below B w ((((x.setCell ⟨n, 3, none⟩ (.int .u8 p'.kind)).setCell ⟨m, 3, none⟩ (.int .u8 q'.kind)).setCell ⟨n, 4, none⟩ u').setCell ⟨m, 4, none⟩ v') := by
  have hne' : ¬ n = m := fun h => hne h.symm
  have far : ∀ (y : World) (i : Nat) (c : Value) {a b : Nat} {o : Obj}, ¬ b = a → y.heap[b]? = some o → (y.setCell ⟨a, i, none⟩ c).heap[b]? = some o := fun y i c a b o h hb => ((Only.setCell y ⟨a, i, none⟩ c).block b (Array.getElem?_eq_some_iff.1 hb).1 h).trans hb
  refine ⟨?_, ?_, ?_, fun B w hn hm hB => (((hB.setCell hn _).setCell hm _).setCell hn _).setCell hm _⟩
  · have h := far _ 4 v' hne' (heap_setCell_same _ n 4 _ _ u' (far _ 3 (.int .u8 q'.kind) hne' (heap_setCell_same _ n 3 _ _ (.int .u8 p'.kind) hp)))
    unfold Row5
    rw [e1, e2, e3]
    exact h
  · have h := heap_setCell_same _ m 4 _ _ v' (far _ 4 u' hne (heap_setCell_same _ m 3 _ _ (.int .u8 q'.kind) (far _ 3 (.int .u8 p'.kind) hne hq)))
    unfold Row5
    rw [i1, i2, i3]
    exact h
  · have h1 : ∀ (y : World) (i : Nat) (c : Value), Only y (y.setCell ⟨n, i, none⟩ c) (fun k => k = n ∨ k = m) := fun y i c => (Only.setCell y ⟨n, i, none⟩ c).mono fun _ _ h => .inl h
    have h2 : ∀ (y : World) (i : Nat) (c : Value), Only y (y.setCell ⟨m, i, none⟩ c) (fun k => k = n ∨ k = m) := fun y i c => (Only.setCell y ⟨m, i, none⟩ c).mono fun _ _ h => .inr h
    exact (((h1 _ 3 _).trans (h2 _ 3 _) fun _ _ h => h).trans (h1 _ 4 _) fun _ _ h => h).trans (h2 _ 4 _) fun _ _ h => h

theorem anyZ_onlyK {P : Program} {ops : Array Oper} {Q : Exit → Act → World → Prop} {md : Region.Mode} {S : World → Prop} {z : Nat} {fuel i : Nat} {oi : Oper} {listed : Array Bool} {a : Act} {w : World} (hr : Region.ready md ops listed = [i]) (hi : ops[i]? = some oi) (hg : oi.guard = none)
    (h : ∀ K : Act → World → Prop, (∀ a' w', ((listed.setIfInBounds i true).getD z true = false → S w') → AnyZ P md ops Q S z fuel (listed.setIfInBounds i true) a' w' → K a' w') → oi.wp P a w K Q) : AnyZ P md ops Q S z (fuel + 1) listed a w :=
  anyZ_only hr hi hg (h _ fun _ _ h1 h2 => ⟨h1, h2⟩)

/-- bytes of one's own, kept -/
def Mine (B : Nat) (w : World) (v : Value) (l : List UInt8) : Prop := Own8 5 B w v l
theorem Mine.below {B : Nat} {w w' : World} {v : Value} {l : List UInt8} (h : Mine B w v l) (hb : Below w.heap.size w w') : Mine B w' v l := Own8.kept h (Nat.le_refl _) hb

set_option maxRecDepth 10000 in
theorem cut_step (t s B : Nat) (v : Value) (l : List UInt8) (o : Oper) (a : Act) (w1 : World) (K : Act → World → Prop) (Q : Exit → Act → World → Prop) (hB : B ≤ w1.heap.size) (hv : Bytes w1 v l) (ho : o.op = .call { callee := .value (.func 17), args := #[.tmp t, .const (.int .i64 491)], argTypes := #[23, 3] }) (hd : o.dst = some s)
    (he : a.eval (.tmp t) = v) (hK : ∀ ad n c w2, Mine B w2 (.slice ad n c) (l.take 491) → Below w1.heap.size w1 w2 → K (a.put (some s) (.slice ad n c)) w2) : o.wp Tryd.prog a w1 K Q := by
  have hrun : (execOp a.eval o).run Tryd.prog w1 = .ok (.enter 17 #[v, .int .i64 491]) w1 := by
    unfold execOp
    simp only [ho, resolve, invoke, Sem.run_bind, List.map_toArray, List.map_cons, List.map_nil, he]
    rfl
  unfold Oper.wp
  rw [hrun, Oper.upon_enter]
  refine (cut_any v l 491 (by omega) (by omega) w1 hv).mono ?_
  rintro e w2 ⟨v2, rfl, ho2, hb2⟩
  rw [show (491 : Int).toNat = 491 by rfl] at ho2
  obtain ⟨a2, n2, c2, rfl⟩ := ho2.isSlice
  rw [hd]
  exact hK a2 n2 c2 w2 (Own8.kept ho2 hB (bre _)) hb2

set_option maxRecDepth 10000 in
set_option maxHeartbeats 3200000 in
theorem pageApart_calls (va vb : Value) (a b : Pg) (oa : a.Ok) (ob : b.Ok) (w : World) (ha : Bytes w va a.data) (hb : Bytes w vb b.data) :
    Calls Tryd.prog 6 #[PgVal a va, PgVal b vb] w fun e w' => e = .returned (.bool true) ∧ Below w.heap.size w w' := by
  have OA := Lib.hid (oa.cut 520).may
  have OB := Lib.hid (ob.cut 520).may
  clear oa ob
  have HA := Lib.hid ha
  have HB := Lib.hid hb
  unfold PgVal
  obtain ⟨aa, ca, rfl, -, -, -, -⟩ := id ha
  obtain ⟨ab, cb, rfl, -, -, -, -⟩ := id hb
  clear ha hb
  obtain ⟨la, hla⟩ : ∃ l, l = a.data.length := ⟨_, rfl⟩
  obtain ⟨lb, hlb⟩ : ∃ l, l = b.data.length := ⟨_, rfl⟩
  rw [← hla] at HA ⊢
  rw [← hlb] at HB ⊢
  clear hla hlb
  go_enter Tryd.func6, Tryd.ntmps6
  go_wp2_with fail
  obtain ⟨hr1, hr2⟩ := box_two w (.cells #[.int .u32 a.gen, .int .u32 a.serial, .int .u32 a.number, .int .u8 a.kind, .slice aa la ca] 25) (.cells #[.int .u32 b.gen, .int .u32 b.serial, .int .u32 b.number, .int .u8 b.kind, .slice ab lb cb] 25)
  have hb0 := bal (bal (bre w) (.cells #[.int .u32 a.gen, .int .u32 a.serial, .int .u32 a.number, .int .u8 a.kind, .slice aa la ca] 25)) (.cells #[.int .u32 b.gen, .int .u32 b.serial, .int .u32 b.number, .int .u8 b.kind, .slice ab lb cb] 25)
  generalize (w.alloc (.cells #[.int .u32 a.gen, .int .u32 a.serial, .int .u32 a.number, .int .u8 a.kind, .slice aa la ca] 25)).alloc (.cells #[.int .u32 b.gen, .int .u32 b.serial, .int .u32 b.number, .int .u8 b.kind, .slice ab lb cb] 25) = W at *
  obtain ⟨n2, hn2⟩ : ∃ n, n = w.heap.size := ⟨_, rfl⟩
  rw [← hn2] at hr1 hr2 ⊢
  obtain ⟨n3, hn3⟩ : ∃ n, n = n2 + 1 := ⟨_, rfl⟩
  rw [← hn3] at hr2
  try rw [← hn3]
  have HN2 := Lib.hid hn2
  have HN3 := Lib.hid hn3
  have HR1 : Hid (Row5 W n2 a (.slice aa la ca)) := Lib.hid hr1
  have HR2 : Hid (Row5 W n3 b (.slice ab lb cb)) := Lib.hid hr2
  have HA0 := Lib.hid (HA.out.below hb0)
  have HB0 := Lib.hid (HB.out.below hb0)
  have HBW := Lib.hid hb0
  clear hn2 hn3 hr1 hr2 hb0 HA HB
  refine (awake_any W).mono ?_
  rintro e w1 ⟨rfl, hb1⟩
  have HR3 := Lib.hid (HR1.out.below hb1)
  have HR4 := Lib.hid (HR2.out.below hb1)
  have HA1 := Lib.hid (HA0.out.below hb1)
  have HB1 := Lib.hid (HB0.out.below hb1)
  have HBW1 := Lib.hid (HBW.out.trans (hb1.mono HBW.out.size))
  clear hb1 HR1 HR2 HA0 HB0 HBW
  obtain ⟨PA, hA⟩ : ∃ PA, PA = a.cut 520 := ⟨_, rfl⟩
  obtain ⟨PB, hB⟩ : ∃ PB, PB = b.cut 520 := ⟨_, rfl⟩
  have HAA := Lib.hid hA
  have HBB := Lib.hid hB
  clear hA hB
  go_upto_region 3 with fail
  refine region_anyZ (z := 4) (S := fun w' => Row5 w' n2 a (.slice aa la ca) ∧ Row5 w' n3 b (.slice ab lb cb)) (by kernel_rfl) ?_
  refine anyZ_begin (fun hcl0 => ?_)
  refine anyZ_held (by exact ⟨HR3.out.below (bdr (bre w1)), HR4.out.below (bdr (bre w1))⟩) (fun hHeld => ?_)
  -- 0: Op.load 25 (Operand.tmp 2)
  refine' anyZ_take (i := 0) (v := _) rfl (by rfl) (by kernel_rfl) (by kernel_rfl) (by kernel_rfl) hcl0 5 (by kernel_rfl) (by kernel_rfl) (fun _ _ _ h => h) (Or.inl ⟨by rfl, fun w hSw => ?h1⟩) hHeld (fun hcl1 => ?r1)
  case h1 => (simp only [List.getElem_toArray, List.getElem_cons_zero]; obtain ⟨hS1, hS2⟩ := hSw; have e0 := hS1.c0; have e1 := hS1.c1; have e2 := hS1.c2; have e3 := hS1.c3; have e4 := hS1.c4; have i0 := hS2.c0; have i1 := hS2.c1; have i2 := hS2.c2; have i3 := hS2.c3; have i4 := hS2.c4; first | (go_simp; with_reducible rfl) | (go_simp; done) | rfl)
  simp only [List.getElem_toArray, List.getElem_cons_zero, Act.put, List.setIfInBounds_toArray, List.set_cons_zero, List.set_cons_succ]
  -- 2: Op.load 25 (Operand.tmp 3)
  refine' anyZ_take (i := 2) (v := _) rfl (by rfl) (by kernel_rfl) (by kernel_rfl) (by kernel_rfl) hcl1 5 (by kernel_rfl) (by kernel_rfl) (fun _ _ _ h => h) (Or.inl ⟨by rfl, fun w hSw => ?h2⟩) hHeld (fun hcl2 => ?r2)
  case h2 => (simp only [List.getElem_toArray, List.getElem_cons_succ, List.getElem_cons_zero]; obtain ⟨hS1, hS2⟩ := hSw; have e0 := hS1.c0; have e1 := hS1.c1; have e2 := hS1.c2; have e3 := hS1.c3; have e4 := hS1.c4; have i0 := hS2.c0; have i1 := hS2.c1; have i2 := hS2.c2; have i3 := hS2.c3; have i4 := hS2.c4; first | (go_simp; with_reducible rfl) | (go_simp; done) | rfl)
  simp only [List.getElem_toArray, List.getElem_cons_succ, List.getElem_cons_zero, Act.put, List.setIfInBounds_toArray, List.set_cons_zero, List.set_cons_succ]
  -- 1: Op.call { callee := Callee.value (Operand.func 9), args := #
  refine anyZ_one (i := 1) hcl2 (by kernel_rfl) (by simp only [List.getElem?_toArray, List.getElem?_cons_succ, List.getElem?_cons_zero]; rfl) (by rfl) (fun hcl3 K hK => ?_)
  go_simp
  refine (few_any (.slice aa la ca) a _ (HA1.out.below (bdr (bre w1)))).mono ?_
  rintro e w2 ⟨v2, rfl, ho2, hb2⟩
  have hb12 := btr (bdr (bre w1)) hb2
  rw [← HAA.out] at ho2 ⊢
  unfold PgVal
  obtain ⟨a2, m2, c2, rfl⟩ := ho2.isSlice
  have HB12 := Lib.hid hb12
  have HO2 := Lib.hid ho2
  clear ho2 hb12
  refine hK _ _ (fun _ => ?_) ?_
  · exact ⟨HR3.out.below HB12.out, HR4.out.below HB12.out⟩
  clear hK K hHeld
  have hHeld := (show Row5 w2 n2 a (.slice aa la ca) ∧ Row5 w2 n3 b (.slice ab lb cb) from ⟨HR3.out.below HB12.out, HR4.out.below HB12.out⟩)
  try simp only [Act.put, List.setIfInBounds_toArray, List.set_cons_zero, List.set_cons_succ]
  -- 3: Op.call { callee := Callee.value (Operand.func 9), args := #
  refine anyZ_one (i := 3) hcl3 (by kernel_rfl) (by simp only [List.getElem?_toArray, List.getElem?_cons_succ, List.getElem?_cons_zero]; rfl) (by rfl) (fun hcl4 K hK => ?_)
  go_simp
  refine (few_any (.slice ab lb cb) b _ (HB1.out.below HB12.out)).mono ?_
  rintro e w3 ⟨v3, rfl, ho3, hb3⟩
  have hb13 := HB12.out.trans (hb3.mono HB12.out.size)
  rw [← HBB.out] at ho3 ⊢
  unfold PgVal
  obtain ⟨a3, m3, c3, rfl⟩ := ho3.isSlice
  have ho2 := Own8.kept HO2.out (Nat.le_refl _) hb3
  have HB13 := Lib.hid hb13
  have HO3 := Lib.hid ho3
  have HO23 := Lib.hid ho2
  have HB3 := Lib.hid hb3
  clear ho3 hb13 ho2 HO2
  refine hK _ _ (fun _ => ?_) ?_
  · exact ⟨HR3.out.below HB13.out, HR4.out.below HB13.out⟩
  clear hK K hHeld
  try simp only [Act.put, List.setIfInBounds_toArray, List.set_cons_zero, List.set_cons_succ]
  refine anyZ_chain_at (by kernel_rfl) ?_
  simp only [List.drop_succ_cons, List.drop_zero]
  have hr1 := HR3.out.below HB13.out
  have hr2 := HR4.out.below HB13.out
  have z0 := hr1.c0
  have z1 := hr1.c1
  have z2 := hr1.c2
  have z3 := hr1.c3
  have z4 := hr1.c4
  have zf := hr1.fz
  have y0 := hr2.c0
  have y1 := hr2.c1
  have y2 := hr2.c2
  have y3 := hr2.c3
  have y4 := hr2.c4
  have yf := hr2.fz
  obtain ⟨q1, q2, q3⟩ := page_put PA (.slice a2 m2 c2) hr1
  have hne : ¬ n3 = n2 := by have := HN3.out; omega
  have hr2' : Row5 _ n3 b (.slice ab lb cb) := hr2.only q2 hne
  obtain ⟨q4, q5, q6⟩ := page_put PB (.slice a3 m3 c3) hr2'
  have hbw := q6 w.heap.size w (by have := HN3.out; have := HN2.out; omega) (q3 w.heap.size w (by have := HN2.out; omega) (HBW1.out.trans (HB13.out.mono HBW1.out.size)))
  have hl1 := HR3.out.lt
  have hl2 := HR4.out.lt
  have ho := (q2.mono (fun q _ h => (Or.inl h : q = n2 ∨ q = n3))).trans q5 (fun _ _ h => Or.inr h)
  have hoA := own_only HO23.out ho (fun k hk e => by
    have h1 := (World.ownsRow.lt HO23.out k hk).1
    have h2 : w1.heap.size ≤ k := h1
    rcases e with e | e <;> omega)
  have hoB := own_only HO3.out ho (fun k hk e => by
    have h1 := (World.ownsRow.lt HO3.out k hk).1
    have h2 := HB12.out.size
    rcases e with e | e <;> omega)
  have q1' : Row5 _ n2 PA (.slice a2 m2 c2) := (show Row5 _ n2 PA (.slice a2 m2 c2) from q1).only q5 (fun h => hne h.symm)
  have HQ1 := Lib.hid q1'
  have HQ4 : Hid (Row5 _ n3 PB (.slice a3 m3 c3)) := Lib.hid q4
  have HBE := Lib.hid hbw
  have HYA := Lib.hid (Own8.bytes hoA)
  have HYB := Lib.hid (Own8.bytes hoB)
  clear hr1 hr2 hr2' q1 q1' q2 q3 q4 q5 q6 ho hoA hoB hbw hl1 hl2 HR3 HR4 HA1 HB1 HBW1 HB12 HB13 HO3 HO23 HB3 hb2 hb3 hcl0 hcl1 hcl2 hcl3 hcl4
  go_upto_region 4 with fail
  have hq1 := HQ1.out
  have hq4 := HQ4.out
  have hya := HYA.out
  have hyb := HYB.out
  have hbe := HBE.out
  clear HQ1 HQ4 HYA HYB HBE
  generalize ((((((((((w3.setCell ⟨n2, 0, none⟩ (.int .u32 PA.gen)).setCell ⟨n2, 1, none⟩ (.int .u32 PA.serial)).setCell ⟨n2, 2, none⟩ (.int .u32 PA.number)).setCell ⟨n2, 3, none⟩ (.int .u8 PA.kind)).setCell ⟨n2, 4, none⟩ (.slice a2 m2 c2)).setCell ⟨n3, 0, none⟩ (.int .u32 PB.gen)).setCell ⟨n3, 1, none⟩ (.int .u32 PB.serial)).setCell ⟨n3, 2, none⟩ (.int .u32 PB.number)).setCell ⟨n3, 3, none⟩ (.int .u8 PB.kind)).setCell ⟨n3, 4, none⟩ (.slice a3 m3 c3)) = W4 at *
  clear z0 z1 z2 z3 z4 zf y0 y1 y2 y3 y4 yf
  have HBE := Lib.hid hbe
  have HQ1 : Hid (Row5 W4 n2 PA (.slice a2 m2 c2)) := Lib.hid hq1
  have HQ4 : Hid (Row5 W4 n3 PB (.slice a3 m3 c3)) := Lib.hid hq4
  have HYA := Lib.hid hya
  have HYB := Lib.hid hyb
  have HSB : Hid (∀ w', Below W4.heap.size W4 w' → (w'.cell? ⟨n2, 4, none⟩ = some (.slice a2 m2 c2) ∧ w'.cell? ⟨n3, 3, none⟩ = some (.int .u8 PB.kind) ∧ w'.cell? ⟨n3, 4, none⟩ = some (.slice a3 m3 c3))) := Lib.hid (fun w' hb => ⟨(hq1.below hb).c4, (hq4.below hb).c3, (hq4.below hb).c4⟩)
  clear hq1 hq4 hya hyb hbe
  refine region_anyZ (z := 15) (S := fun w' => (w'.cell? ⟨n2, 4, none⟩ = some (.slice a2 m2 c2) ∧ w'.cell? ⟨n3, 3, none⟩ = some (.int .u8 PB.kind) ∧ w'.cell? ⟨n3, 4, none⟩ = some (.slice a3 m3 c3))) (by kernel_rfl) ?_
  refine anyZ_begin (fun hcl0 => ?_)
  refine anyZ_held (by exact HSB.out _ (bdr (bre W4))) (fun hHeld => ?_)
  -- 0: Op.fieldAddr 25 (Operand.tmp 2) 3
  refine' anyZ_pure (i := 0) (v := _) rfl (by rfl) (by kernel_rfl) (by kernel_rfl) (by kernel_rfl) hcl0 (fun _ _ _ h => h) (Or.inl ⟨by rfl, fun w _ => ?hb1⟩) (fun _ => hHeld) (fun hcl1 => ?rb1)
  case hb1 => (simp only [List.getElem_toArray, List.getElem_cons_zero]; first | (go_simp; with_reducible rfl) | (go_simp; done) | rfl)
  simp only [List.getElem_toArray, List.getElem_cons_zero, Act.put, List.setIfInBounds_toArray, List.set_cons_zero, List.set_cons_succ]
  -- 3: Op.fieldAddr 25 (Operand.tmp 3) 3
  refine' anyZ_pure (i := 3) (v := _) rfl (by rfl) (by kernel_rfl) (by kernel_rfl) (by kernel_rfl) hcl1 (fun _ _ _ h => h) (Or.inl ⟨by rfl, fun w _ => ?hb2⟩) (fun _ => hHeld) (fun hcl2 => ?rb2)
  case hb2 => (simp only [List.getElem_toArray, List.getElem_cons_succ, List.getElem_cons_zero]; first | (go_simp; with_reducible rfl) | (go_simp; done) | rfl)
  simp only [List.getElem_toArray, List.getElem_cons_succ, List.getElem_cons_zero, Act.put, List.setIfInBounds_toArray, List.set_cons_zero, List.set_cons_succ]
  -- 4: Op.load 5 (Operand.tmp 20)
  refine' anyZ_take (i := 4) (v := _) rfl (by rfl) (by kernel_rfl) (by kernel_rfl) (by kernel_rfl) hcl2 8 (by kernel_rfl) (by kernel_rfl) (fun _ _ _ h => h) (Or.inl ⟨by rfl, fun w hSw => ?hb3⟩) hHeld (fun hcl3 => ?rb3)
  case hb3 => (simp only [List.getElem_toArray, List.getElem_cons_succ, List.getElem_cons_zero]; obtain ⟨hS1, hS2, hS3⟩ := hSw; first | (go_simp; with_reducible rfl) | (go_simp; done) | rfl)
  simp only [List.getElem_toArray, List.getElem_cons_succ, List.getElem_cons_zero, Act.put, List.setIfInBounds_toArray, List.set_cons_zero, List.set_cons_succ]
  -- 5: Op.call { callee := Callee.builtin Builtin.max, args := #[Op
  refine' anyZ_pure (i := 5) (v := _) rfl (by rfl) (by kernel_rfl) (by kernel_rfl) (by kernel_rfl) hcl3 (fun _ _ _ h => h) (Or.inl ⟨by rfl, fun w _ => ?hb4⟩) (fun _ => hHeld) (fun hcl4 => ?rb4)
  case hb4 => (simp only [List.getElem_toArray, List.getElem_cons_succ, List.getElem_cons_zero]; first | (go_simp; with_reducible rfl) | (go_simp; done) | rfl)
  simp only [List.getElem_toArray, List.getElem_cons_succ, List.getElem_cons_zero, Act.put, List.setIfInBounds_toArray, List.set_cons_zero, List.set_cons_succ]
  -- 6: Op.fieldAddr 25 (Operand.tmp 2) 4
  refine' anyZ_pure (i := 6) (v := _) rfl (by rfl) (by kernel_rfl) (by kernel_rfl) (by kernel_rfl) hcl4 (fun _ _ _ h => h) (Or.inl ⟨by rfl, fun w _ => ?hb5⟩) (fun _ => hHeld) (fun hcl5 => ?rb5)
  case hb5 => (simp only [List.getElem_toArray, List.getElem_cons_succ, List.getElem_cons_zero]; first | (go_simp; with_reducible rfl) | (go_simp; done) | rfl)
  simp only [List.getElem_toArray, List.getElem_cons_succ, List.getElem_cons_zero, Act.put, List.setIfInBounds_toArray, List.set_cons_zero, List.set_cons_succ]
  -- 7: Op.load 23 (Operand.tmp 23)
  refine' anyZ_take (i := 7) (v := _) rfl (by rfl) (by kernel_rfl) (by kernel_rfl) (by kernel_rfl) hcl5 8 (by kernel_rfl) (by kernel_rfl) (fun _ _ _ h => h) (Or.inl ⟨by rfl, fun w hSw => ?hb6⟩) hHeld (fun hcl6 => ?rb6)
  case hb6 => (simp only [List.getElem_toArray, List.getElem_cons_succ, List.getElem_cons_zero]; obtain ⟨hS1, hS2, hS3⟩ := hSw; first | (go_simp; with_reducible rfl) | (go_simp; done) | rfl)
  simp only [List.getElem_toArray, List.getElem_cons_succ, List.getElem_cons_zero, Act.put, List.setIfInBounds_toArray, List.set_cons_zero, List.set_cons_succ]
  -- 9: Op.fieldAddr 25 (Operand.tmp 3) 4
  refine' anyZ_pure (i := 9) (v := _) rfl (by rfl) (by kernel_rfl) (by kernel_rfl) (by kernel_rfl) hcl6 (fun _ _ _ h => h) (Or.inl ⟨by rfl, fun w _ => ?hb7⟩) (fun _ => hHeld) (fun hcl7 => ?rb7)
  case hb7 => (simp only [List.getElem_toArray, List.getElem_cons_succ, List.getElem_cons_zero]; first | (go_simp; with_reducible rfl) | (go_simp; done) | rfl)
  simp only [List.getElem_toArray, List.getElem_cons_succ, List.getElem_cons_zero, Act.put, List.setIfInBounds_toArray, List.set_cons_zero, List.set_cons_succ]
  -- 10: Op.load 23 (Operand.tmp 26)
  refine' anyZ_take (i := 10) (v := _) rfl (by rfl) (by kernel_rfl) (by kernel_rfl) (by kernel_rfl) hcl7 8 (by kernel_rfl) (by kernel_rfl) (fun _ _ _ h => h) (Or.inl ⟨by rfl, fun w hSw => ?hb8⟩) hHeld (fun hcl8 => ?rb8)
  case hb8 => (simp only [List.getElem_toArray, List.getElem_cons_succ, List.getElem_cons_zero]; obtain ⟨hS1, hS2, hS3⟩ := hSw; first | (go_simp; with_reducible rfl) | (go_simp; done) | rfl)
  simp only [List.getElem_toArray, List.getElem_cons_succ, List.getElem_cons_zero, Act.put, List.setIfInBounds_toArray, List.set_cons_zero, List.set_cons_succ]
  refine anyZ_cast (listed' := #[true, false, false, true, true, true, true, true, false, true, true, false, false, false, false, false, false, false, false, false]) (by kernel_rfl) ?_
  refine anyZ_name (fun T Wp R HT HR Hop HE => ?_)
  generalize hA : Act.mk _ _ = A
  have E2 : A.eval (.tmp 2) = .pointer (some ⟨n2, 0, none⟩) := by rw [← hA]; rfl
  have E17 : A.eval (.tmp 17) = .pointer (some ⟨n2, 3, none⟩) := by rw [← hA]; rfl
  have E24 : A.eval (.tmp 24) = .slice a2 m2 c2 := by rw [← hA]; rfl
  have E27 : A.eval (.tmp 27) = .slice a3 m3 c3 := by rw [← hA]; rfl
  have hsz : A.tmps.size = 72 := by rw [← hA]; rfl
  have HA := Lib.hid hA
  clear hA
  have M1 : ∀ (a : Act) (w1 : World) (K : Act → World → Prop), Below W4.heap.size W4 w1 → a.eval (.tmp 17) = .pointer (some ⟨n2, 3, none⟩) → K (a.put (some 18) (.int .u8 PA.kind)) w1 → Wp 1 K a w1 := by
    intro a w1 K hb he hK
    simp only [Act.eval, Array.getD_eq_getD_getElem?] at he
    have hc := (HQ1.out.below hb).c3
    refine Hop 1 _ a w1 K (by simp only [List.getElem?_toArray, List.getElem?_cons_succ, List.getElem?_cons_zero]; rfl) rfl ?_
    go_simp
    exact hK
  have M2 : ∀ (a : Act) (w1 : World) (K : Act → World → Prop), a.eval (.tmp 18) = .int .u8 PA.kind → K (a.put (some 19) (.int .u8 (max (PA.kind : Int) 1))) w1 → Wp 2 K a w1 := by
    intro a w1 K he hK
    simp only [Act.eval, Array.getD_eq_getD_getElem?] at he
    refine Hop 2 _ a w1 K (by simp only [List.getElem?_toArray, List.getElem?_cons_succ, List.getElem?_cons_zero]; rfl) rfl ?_
    go_simp
    exact hK
  have M12 : ∀ (a : Act) (w1 : World) (K : Act → World → Prop), a.eval (.tmp 2) = .pointer (some ⟨n2, 0, none⟩) → K (a.put (some 29) (.pointer (some ⟨n2, 3, none⟩))) w1 → Wp 12 K a w1 := by
    intro a w1 K he hK
    simp only [Act.eval, Array.getD_eq_getD_getElem?] at he
    refine Hop 12 _ a w1 K (by simp only [List.getElem?_toArray, List.getElem?_cons_succ, List.getElem?_cons_zero]; rfl) rfl ?_
    go_simp
    exact hK
  have M8 : ∀ (a : Act) (w1 : World) (K : Act → World → Prop), Below W4.heap.size W4 w1 → a.eval (.tmp 24) = .slice a2 m2 c2 → (∀ ad n c w2, Mine W4.heap.size w2 (.slice ad n c) (PA.data.take 491) → Below w1.heap.size w1 w2 → K (a.put (some 25) (.slice ad n c)) w2) → Wp 8 K a w1 := by
    intro a w1 K hb he hK
    exact Hop 8 _ a w1 K (by simp only [List.getElem?_toArray, List.getElem?_cons_succ, List.getElem?_cons_zero]; rfl) rfl (cut_step 24 25 W4.heap.size _ PA.data _ a w1 K _ hb.size (HYA.out.below hb) rfl rfl he hK)
  have M11 : ∀ (a : Act) (w1 : World) (K : Act → World → Prop), Below W4.heap.size W4 w1 → a.eval (.tmp 27) = .slice a3 m3 c3 → (∀ ad n c w2, Mine W4.heap.size w2 (.slice ad n c) (PB.data.take 491) → Below w1.heap.size w1 w2 → K (a.put (some 28) (.slice ad n c)) w2) → Wp 11 K a w1 := by
    intro a w1 K hb he hK
    exact Hop 11 _ a w1 K (by simp only [List.getElem?_toArray, List.getElem?_cons_succ, List.getElem?_cons_zero]; rfl) rfl (cut_step 27 28 W4.heap.size _ PB.data _ a w1 K _ hb.size (HYB.out.below hb) rfl rfl he hK)
  clear Hop
  have st1_2_8_11_12_ : ∀ (a25 : Option Addr) (m25 c25 : Nat) (a28 : Option Addr) (m28 c28 : Nat) (w1 : World), Below W4.heap.size W4 w1 → Mine W4.heap.size w1 (.slice a25 m25 c25) (PA.data.take 491) → Mine W4.heap.size w1 (.slice a28 m28 c28) (PB.data.take 491) → T 7 #[true, true, true, true, true, true, true, true, true, true, true, true, true, false, false, false, false, false, false, false] (((((A.put (some 18) (.int .u8 PA.kind)).put (some 19) (.int .u8 (max (PA.kind : Int) 1))).put (some 25) (.slice a25 m25 c25)).put (some 28) (.slice a28 m28 c28)).put (some 29) (.pointer (some ⟨n2, 3, none⟩))) w1 := by
    intro a25 m25 c25 a28 m28 c28 w1 hb f25 f28
    refine HE _ _ _ _ ?_
    rw [← HA.out]
    simp only [Act.put, List.setIfInBounds_toArray, List.set_cons_zero, List.set_cons_succ]
    clear HT HR HE M1 M2 M8 M11 M12 E2 E17 E24 E27 hsz
    have hr1 := HQ1.out.below hb
    have hr2 := HQ4.out.below hb
    have hne : ¬ n3 = n2 := by have := HN3.out; omega
    obtain ⟨t1, t2, t3, t4⟩ := two_put hne hr1 hr2 PA.may PB.may (.slice a25 m25 c25) (.slice a28 m28 c28) rfl rfl rfl rfl rfl rfl
    have hk1 : ((PA.may.kind : Nat) : Int) = max (PA.kind : Int) 1 := by show ((max PA.kind 1 : Nat) : Int) = _; omega
    have hk2 : ((PB.may.kind : Nat) : Int) = max (PB.kind : Int) 1 := by show ((max PB.kind 1 : Nat) : Int) = _; omega
    rw [hk1, hk2] at t1 t2 t3 t4
    have hS13 : (w1.setCell ⟨n2, 3, none⟩ (.int .u8 (max (PA.kind : Int) 1))).cell? ⟨n2, 4, none⟩ = some (.slice a2 m2 c2) ∧ (w1.setCell ⟨n2, 3, none⟩ (.int .u8 (max (PA.kind : Int) 1))).cell? ⟨n3, 3, none⟩ = some (.int .u8 PB.kind) ∧ (w1.setCell ⟨n2, 3, none⟩ (.int .u8 (max (PA.kind : Int) 1))).cell? ⟨n3, 4, none⟩ = some (.slice a3 m3 c3) := by
      have h1 := heap_setCell_same w1 n2 3 _ _ (.int .u8 (max (PA.kind : Int) 1)) hr1
      have h2 : Row5 _ n3 PB (.slice a3 m3 c3) := hr2.only (Only.setCell w1 ⟨n2, 3, none⟩ (.int .u8 (max (PA.kind : Int) 1))) hne
      exact ⟨cell_of_row _ n2 4 _ _ _ h1, h2.c3, h2.c4⟩
    have z0 := hr1.c0
    have z1 := hr1.c1
    have z2 := hr1.c2
    have z3 := hr1.c3
    have z4 := hr1.c4
    have zf := hr1.fz
    have y0 := hr2.c0
    have y1 := hr2.c1
    have y2 := hr2.c2
    have y3 := hr2.c3
    have y4 := hr2.c4
    have yf := hr2.fz
    have hlt := hr1.lt
    have hlt' := hr2.lt
    have hW := HBE.out.size
    have hwn : w.heap.size ≤ n2 := by have := HN2.out; omega
    have hwm : w.heap.size ≤ n3 := by have := HN3.out; omega
    have t5 := t4 w.heap.size w hwn hwm (HBE.out.trans (hb.mono HBE.out.size))
    have l1 := HQ1.out.lt
    have l2 := HQ4.out.lt
    have mA := Own8.bytes (own_only f25 t3 (fun k hk e => by
      have h1 := (World.ownsRow.lt f25 k hk).1
      rcases e with e | e <;> omega))
    have mB := Own8.bytes (own_only f28 t3 (fun k hk e => by
      have h1 := (World.ownsRow.lt f28 k hk).1
      rcases e with e | e <;> omega))
    have HT1 := Lib.hid t1
    have HT2 := Lib.hid t2
    have HT5 := Lib.hid t5
    have HMA := Lib.hid mA
    have HMB := Lib.hid mB
    have HS13 := Lib.hid hS13
    clear t1 t2 t3 t4 t5 mA mB hS13 f25 f28 hr1 hr2 hk1 hk2 hlt hlt' hW hwn hwm l1 l2 HQ1 HQ4 HYA HYB HSB HBE hb
    refine anyZ_onlyK (i := 13) (by kernel_rfl) (by simp only [List.getElem?_toArray, List.getElem?_cons_succ, List.getElem?_cons_zero]; rfl) rfl (fun K hK => ?_)
    go_simp
    refine hK _ _ (fun _ => HS13.out) ?_
    clear hK K
    simp only [List.setIfInBounds_toArray, List.set_cons_zero, List.set_cons_succ]
    refine anyZ_onlyK (i := 14) (by kernel_rfl) (by simp only [List.getElem?_toArray, List.getElem?_cons_succ, List.getElem?_cons_zero]; rfl) rfl (fun K hK => ?_)
    go_simp
    refine hK _ _ (fun _ => HS13.out) ?_
    clear hK K
    simp only [List.setIfInBounds_toArray, List.set_cons_zero, List.set_cons_succ]
    refine anyZ_chain_at (by kernel_rfl) ?_
    simp only [List.drop_succ_cons, List.drop_zero]
    go_upto_region 5 with fail
    have hq1 := HT1.out
    have hq4 := HT2.out
    have hya := HMA.out
    have hyb := HMB.out
    have hbe := HT5.out
    clear HT1 HT2 HT5 HMA HMB HS13
    generalize ((((w1.setCell ⟨n2, 3, none⟩ (.int .u8 (max (PA.kind : Int) 1))).setCell ⟨n3, 3, none⟩ (.int .u8 (max (PB.kind : Int) 1))).setCell ⟨n2, 4, none⟩ (.slice a25 m25 c25)).setCell ⟨n3, 4, none⟩ (.slice a28 m28 c28)) = W5 at *
    have ka := may_kind PA
    have kb := may_kind PB
    have da := may_data PA
    have db := may_data PB
    have oa := OA.out
    have ob := OB.out
    rw [← HAA.out] at oa
    rw [← HBB.out] at ob
    have hya' : Bytes W5 (.slice a25 m25 c25) PA.may.data := hya
    have hyb' : Bytes W5 (.slice a28 m28 c28) PB.may.data := hyb
    clear hya hyb OA OB HAA HBB z0 z1 z2 z3 z4 zf y0 y1 y2 y3 y4 yf
    generalize PA.may = XA at *
    generalize PB.may = XB at *
    have hst := seal_tells XA XB oa ob ka kb da db
    have hpar := parseOf_seal XA oa ka da
    have hla : (seal8 XA.raw).length = 512 := by rw [seal_length, raw_length _ da]
    have hlb : (seal8 XB.raw).length = 512 := by rw [seal_length, raw_length _ db]
    have HYA := Lib.hid (PgAt.mk' hya')
    have HYB := Lib.hid (PgAt.mk' hyb')
    have HBE := Lib.hid hbe
    have HR1 := Lib.hid hq1
    have HR2 := Lib.hid hq4
    have HOA := Lib.hid oa
    have HOB := Lib.hid ob
    have HKA := Lib.hid ka
    have HKB := Lib.hid kb
    have HDA := Lib.hid da
    have HDB := Lib.hid db
    obtain ⟨qa, hqa⟩ : ∃ q, q = seal8 XA.raw := ⟨_, rfl⟩
    obtain ⟨qb, hqb⟩ : ∃ q, q = seal8 XB.raw := ⟨_, rfl⟩
    rw [← hqa] at hst hpar hla
    rw [← hqb] at hst hlb
    have HQA := Lib.hid hqa
    have HQB := Lib.hid hqb
    have HST := Lib.hid hst
    have HPAR := Lib.hid hpar
    have HLA := Lib.hid hla
    have HLB := Lib.hid hlb
    have c0 := hq1.c0
    have c1 := hq1.c1
    have c2' := hq1.c2
    have c3' := hq1.c3
    have c4 := hq1.c4
    clear hst hpar hla hlb hya' hyb' hbe hq1 hq4 oa ob ka kb da db hqa hqb
    unfold PgVal at HYA HYB
    go_wp2_with fail
    refine (pbytes_ok _ XA W5 HYA.out HOA.out HKA.out HDA.out).mono ?_
    rintro e w6 ⟨v6, rfl, ho6, hb6⟩
    rw [← HQA.out] at ho6
    obtain ⟨g6, k6, rfl, -, -, -⟩ := ho6.shape (by intro h; have := HLA.out; rw [h] at this; cases this)
    have hla := HLA.out
    rw [hla] at ho6 ⊢
    have HO6 := Lib.hid ho6
    have HB6 := Lib.hid hb6
    have hr1 := HR1.out.below hb6
    have hr2 := HR2.out.below hb6
    have HR1' := Lib.hid hr1
    have HR2' := Lib.hid hr2
    clear c0 c1 c2' c3' c4 hla ho6 hb6 HR1 HR2
    have c0 := hr2.c0
    have c1 := hr2.c1
    have c2' := hr2.c2
    have c3' := hr2.c3
    have c4 := hr2.c4
    clear hr1 hr2
    go_wp2_with fail
    refine (pbytes_ok _ XB w6 (HYB.out.below HB6.out) HOB.out HKB.out HDB.out).mono ?_
    rintro e w7 ⟨v7, rfl, ho7, hb7⟩
    rw [← HQB.out] at ho7
    obtain ⟨g7, k7, rfl, -, -, -⟩ := ho7.shape (by intro h; have := HLB.out; rw [h] at this; cases this)
    have hlb := HLB.out
    rw [hlb] at ho7 ⊢
    have HO7 := Lib.hid ho7
    have HB7 := Lib.hid hb7
    have HO67 := Lib.hid (Own8.kept HO6.out (Nat.le_refl _) hb7)
    clear c0 c1 c2' c3' c4 hlb ho7 hb7
    go_wp2_with fail
    refine (parse_any _ qa w7 HO67.out.bytes).mono ?_
    rintro e w8 ⟨vx, rfl, hox, hb8⟩
    rw [HPAR.out] at hox ⊢
    unfold PgVal
    obtain ⟨ax, mx, cx, rfl⟩ := hox.isSlice
    have HB8 := Lib.hid hb8
    have HOX := Lib.hid hox
    clear hb8 hox
    go_upto_region 8 with fail
    have hb9 := bal HB8.out (.cells #[.int .u32 XA.gen, .int .u32 XA.serial, .int .u32 XA.number, .int .u8 XA.kind, .slice ax mx cx] 25)
    have hr9 : Row5 _ w8.heap.size XA (.slice ax mx cx) := heap_alloc_new w8 (.cells #[.int .u32 XA.gen, .int .u32 XA.serial, .int .u32 XA.number, .int .u8 XA.kind, .slice ax mx cx] 25)
    have hx9 := HOX.out.bytes.below (bal (bre w8) (.cells #[.int .u32 XA.gen, .int .u32 XA.serial, .int .u32 XA.number, .int .u8 XA.kind, .slice ax mx cx] 25))
    generalize w8.alloc (.cells #[.int .u32 XA.gen, .int .u32 XA.serial, .int .u32 XA.number, .int .u8 XA.kind, .slice ax mx cx] 25) = W9 at *
    obtain ⟨n9, hn9⟩ : ∃ n, n = w8.heap.size := ⟨_, rfl⟩
    rw [← hn9] at hr9 ⊢
    have hb79 := btr HB7.out hb9
    have hb59 := btr HB6.out hb79
    have hr1 := HR1'.out.below hb79
    have hr2 := HR2'.out.below hb79
    have hq9 := HO67.out.bytes.below hb9
    have hq9b := HO7.out.bytes.below hb9
    have hpa := HYA.out.below hb59
    have hpb := HYB.out.below hb59
    have HSB : Hid (∀ w', Below W9.heap.size W9 w' → (w'.cell? ⟨n9, 0, none⟩ = some (.int .u32 XA.gen) ∧ w'.cell? ⟨n9, 1, none⟩ = some (.int .u32 XA.serial) ∧ w'.cell? ⟨n9, 2, none⟩ = some (.int .u32 XA.number) ∧ w'.cell? ⟨n9, 3, none⟩ = some (.int .u8 XA.kind) ∧ w'.cell? ⟨n9, 4, none⟩ = some (.slice ax mx cx) ∧ w'.cell? ⟨n2, 0, none⟩ = some (.int .u32 XA.gen) ∧ w'.cell? ⟨n2, 1, none⟩ = some (.int .u32 XA.serial) ∧ w'.cell? ⟨n2, 2, none⟩ = some (.int .u32 XA.number) ∧ w'.cell? ⟨n2, 3, none⟩ = some (.int .u8 XA.kind) ∧ w'.cell? ⟨n2, 4, none⟩ = some (.slice a25 m25 c25) ∧ w'.cell? ⟨n3, 0, none⟩ = some (.int .u32 XB.gen) ∧ w'.cell? ⟨n3, 1, none⟩ = some (.int .u32 XB.serial) ∧ w'.cell? ⟨n3, 2, none⟩ = some (.int .u32 XB.number) ∧ w'.cell? ⟨n3, 3, none⟩ = some (.int .u8 XB.kind) ∧ w'.cell? ⟨n3, 4, none⟩ = some (.slice a28 m28 c28))) := Lib.hid (fun w' hb => ⟨(hr9.below hb).c0, (hr9.below hb).c1, (hr9.below hb).c2, (hr9.below hb).c3, (hr9.below hb).c4, (hr1.below hb).c0, (hr1.below hb).c1, (hr1.below hb).c2, (hr1.below hb).c3, (hr1.below hb).c4, (hr2.below hb).c0, (hr2.below hb).c1, (hr2.below hb).c2, (hr2.below hb).c3, (hr2.below hb).c4⟩)
    have HS1 : Hid (∀ w', Below W9.heap.size W9 w' → Calls Tryd.prog 23 #[.agg #[.int .u32 XA.gen, .int .u32 XA.serial, .int .u32 XA.number, .int .u8 XA.kind, .slice ax mx cx], .agg #[.int .u32 XA.gen, .int .u32 XA.serial, .int .u32 XA.number, .int .u8 XA.kind, .slice a25 m25 c25]] w' fun e w'' => e = .returned (.bool true) ∧ Below w'.heap.size w' w'') := Lib.hid (fun w' hb => (psame_any _ _ XA XA w' (PgAt.mk' (hx9.below hb)) (hpa.below hb)).mono (fun e w2 h => ⟨by rw [h.1, pgSame_self], h.2⟩))
    have HS2 : Hid (∀ w', Below W9.heap.size W9 w' → Calls Tryd.prog 23 #[.agg #[.int .u32 XA.gen, .int .u32 XA.serial, .int .u32 XA.number, .int .u8 XA.kind, .slice a25 m25 c25], .agg #[.int .u32 XB.gen, .int .u32 XB.serial, .int .u32 XB.number, .int .u8 XB.kind, .slice a28 m28 c28]] w' fun e w'' => e = .returned (.bool (pgSame XA XB)) ∧ Below w'.heap.size w' w'') := Lib.hid (fun w' hb => psame_any _ _ XA XB w' (hpa.below hb) (hpb.below hb))
    have HS3 : Hid (∀ w', Below W9.heap.size W9 w' → Calls Tryd.prog 11 #[.slice (some ⟨g6, 0, none⟩) 512 k6, .slice (some ⟨g7, 0, none⟩) 512 k7] w' fun e w'' => e = .returned (.bool (pgSame XA XB)) ∧ Below w'.heap.size w' w'') := Lib.hid (fun w' hb => (same_any _ _ qa qb w' (hq9.below hb) (hq9b.below hb)).mono (fun e w2 h => by
      obtain ⟨h1, n, rfl⟩ := h
      exact ⟨by rw [h1, HST.out], bdn (bre w') n⟩))
    have HFIN := Lib.hid (HBE.out.trans (hb59.mono HBE.out.size))
    have hs0 := HSB.out W9 (bre W9)
    obtain ⟨sab, hsab⟩ : ∃ s, s = pgSame XA XB := ⟨_, rfl⟩
    rw [← hsab] at HS2 HS3
    clear hr9 hx9 hb9 hb79 hb59 hr1 hr2 hq9 hq9b hpa hpb hn9 hsab HYA HYB HR1' HR2' HO6 HO7 HO67 HB6 HB7 HB8 HOX HST HPAR HLA HLB HQA HQB HOA HOB HKA HKB HDA HDB
    go_region_held3 (fun w' => (w'.cell? ⟨n9, 0, none⟩ = some (.int .u32 XA.gen) ∧ w'.cell? ⟨n9, 1, none⟩ = some (.int .u32 XA.serial) ∧ w'.cell? ⟨n9, 2, none⟩ = some (.int .u32 XA.number) ∧ w'.cell? ⟨n9, 3, none⟩ = some (.int .u8 XA.kind) ∧ w'.cell? ⟨n9, 4, none⟩ = some (.slice ax mx cx) ∧ w'.cell? ⟨n2, 0, none⟩ = some (.int .u32 XA.gen) ∧ w'.cell? ⟨n2, 1, none⟩ = some (.int .u32 XA.serial) ∧ w'.cell? ⟨n2, 2, none⟩ = some (.int .u32 XA.number) ∧ w'.cell? ⟨n2, 3, none⟩ = some (.int .u8 XA.kind) ∧ w'.cell? ⟨n2, 4, none⟩ = some (.slice a25 m25 c25) ∧ w'.cell? ⟨n3, 0, none⟩ = some (.int .u32 XB.gen) ∧ w'.cell? ⟨n3, 1, none⟩ = some (.int .u32 XB.serial) ∧ w'.cell? ⟨n3, 2, none⟩ = some (.int .u32 XB.number) ∧ w'.cell? ⟨n3, 3, none⟩ = some (.int .u8 XB.kind) ∧ w'.cell? ⟨n3, 4, none⟩ = some (.slice a28 m28 c28))) (first | exact hs0 | (with_reducible exact HSB.out _ hbb3) | (with_reducible exact HSB.out _ hbb2) | (with_reducible exact HSB.out _ hbb1) | exact HSB.out _ (bdr (bre W9))) (first | (go_at_call 11; refine (HS3.out _ hbb1).mono ?_; rintro e w11 ⟨rfl, hb11⟩; have hbb2 := btr hbb1 hb11) | (go_at_call 23; refine (HS2.out _ hbb2).mono ?_; rintro e w12 ⟨rfl, hb12⟩; have hbb3 := btr hbb2 hb12) | (go_at_call 23; refine (HS1.out _ (bdr (bre W9))).mono ?_; rintro e w10 ⟨rfl, hb10⟩; have hbb1 := btr (bdr (bre W9)) hb10))
    clear hs0 HS1 HS2 HS3 HSB
    go_wp2_with fail
    go_ret
    exact ⟨rfl, HFIN.out.trans (hbb3.mono HFIN.out.size)⟩
  have st1_2_8_12_ : ∀ (a25 : Option Addr) (m25 c25 : Nat) (w1 : World), Below W4.heap.size W4 w1 → Mine W4.heap.size w1 (.slice a25 m25 c25) (PA.data.take 491) → T 8 #[true, true, true, true, true, true, true, true, true, true, true, false, true, false, false, false, false, false, false, false] ((((A.put (some 18) (.int .u8 PA.kind)).put (some 19) (.int .u8 (max (PA.kind : Int) 1))).put (some 25) (.slice a25 m25 c25)).put (some 29) (.pointer (some ⟨n2, 3, none⟩))) w1 := by
    intro a25 m25 c25 w1 hb f25
    refine HT _ _ _ _ [11] (by rw [HR]; kernel_rfl) (by decide) ?_
    refine List.forall_mem_cons.2 ⟨?_, fun _ h => by cases h⟩
    · refine M11 _ _ _ hb (by rw [eval_put _ 29 27 _ (by decide), eval_put _ 25 27 _ (by decide), eval_put _ 19 27 _ (by decide), eval_put _ 18 27 _ (by decide)]; exact E27) (fun a28 m28 c28 w2 hf hb2 => ⟨fun _ => HSB.out w2 (btr hb hb2), ?_⟩)
      rw [show (#[true, true, true, true, true, true, true, true, true, true, true, false, true, false, false, false, false, false, false, false] : Array Bool).setIfInBounds 11 true = #[true, true, true, true, true, true, true, true, true, true, true, true, true, false, false, false, false, false, false, false] from by kernel_rfl, put_swap _ 29 28 _ _ (by decide)]
      exact st1_2_8_11_12_ a25 m25 c25 a28 m28 c28 w2 (btr hb hb2) (f25.below hb2) hf
  have st1_2_8_11_ : ∀ (a25 : Option Addr) (m25 c25 : Nat) (a28 : Option Addr) (m28 c28 : Nat) (w1 : World), Below W4.heap.size W4 w1 → Mine W4.heap.size w1 (.slice a25 m25 c25) (PA.data.take 491) → Mine W4.heap.size w1 (.slice a28 m28 c28) (PB.data.take 491) → T 8 #[true, true, true, true, true, true, true, true, true, true, true, true, false, false, false, false, false, false, false, false] ((((A.put (some 18) (.int .u8 PA.kind)).put (some 19) (.int .u8 (max (PA.kind : Int) 1))).put (some 25) (.slice a25 m25 c25)).put (some 28) (.slice a28 m28 c28)) w1 := by
    intro a25 m25 c25 a28 m28 c28 w1 hb f25 f28
    refine HT _ _ _ _ [12] (by rw [HR]; kernel_rfl) (by decide) ?_
    refine List.forall_mem_cons.2 ⟨?_, fun _ h => by cases h⟩
    · refine M12 _ _ _ (by rw [eval_put _ 28 2 _ (by decide), eval_put _ 25 2 _ (by decide), eval_put _ 19 2 _ (by decide), eval_put _ 18 2 _ (by decide)]; exact E2) ⟨fun _ => HSB.out w1 hb, ?_⟩
      rw [show (#[true, true, true, true, true, true, true, true, true, true, true, true, false, false, false, false, false, false, false, false] : Array Bool).setIfInBounds 12 true = #[true, true, true, true, true, true, true, true, true, true, true, true, true, false, false, false, false, false, false, false] from by kernel_rfl]
      exact st1_2_8_11_12_ a25 m25 c25 a28 m28 c28 w1 hb f25 f28
  have st1_2_12_ : ∀  (w1 : World), Below W4.heap.size W4 w1 → T 9 #[true, true, true, true, true, true, true, true, false, true, true, false, true, false, false, false, false, false, false, false] (((A.put (some 18) (.int .u8 PA.kind)).put (some 19) (.int .u8 (max (PA.kind : Int) 1))).put (some 29) (.pointer (some ⟨n2, 3, none⟩))) w1 := by
    intro  w1 hb 
    refine HT _ _ _ _ [8] (by rw [HR]; kernel_rfl) (by decide) ?_
    refine List.forall_mem_cons.2 ⟨?_, fun _ h => by cases h⟩
    · refine M8 _ _ _ hb (by rw [eval_put _ 29 24 _ (by decide), eval_put _ 19 24 _ (by decide), eval_put _ 18 24 _ (by decide)]; exact E24) (fun a25 m25 c25 w2 hf hb2 => ⟨fun _ => HSB.out w2 (btr hb hb2), ?_⟩)
      rw [show (#[true, true, true, true, true, true, true, true, false, true, true, false, true, false, false, false, false, false, false, false] : Array Bool).setIfInBounds 8 true = #[true, true, true, true, true, true, true, true, true, true, true, false, true, false, false, false, false, false, false, false] from by kernel_rfl, put_swap _ 29 25 _ _ (by decide)]
      exact st1_2_8_12_ a25 m25 c25 w2 (btr hb hb2) hf
  have st1_2_8_ : ∀ (a25 : Option Addr) (m25 c25 : Nat) (w1 : World), Below W4.heap.size W4 w1 → Mine W4.heap.size w1 (.slice a25 m25 c25) (PA.data.take 491) → T 9 #[true, true, true, true, true, true, true, true, true, true, true, false, false, false, false, false, false, false, false, false] (((A.put (some 18) (.int .u8 PA.kind)).put (some 19) (.int .u8 (max (PA.kind : Int) 1))).put (some 25) (.slice a25 m25 c25)) w1 := by
    intro a25 m25 c25 w1 hb f25
    refine HT _ _ _ _ [11, 12] (by rw [HR]; kernel_rfl) (by decide) ?_
    refine List.forall_mem_cons.2 ⟨?_, List.forall_mem_cons.2 ⟨?_, fun _ h => by cases h⟩⟩
    · refine M11 _ _ _ hb (by rw [eval_put _ 25 27 _ (by decide), eval_put _ 19 27 _ (by decide), eval_put _ 18 27 _ (by decide)]; exact E27) (fun a28 m28 c28 w2 hf hb2 => ⟨fun _ => HSB.out w2 (btr hb hb2), ?_⟩)
      rw [show (#[true, true, true, true, true, true, true, true, true, true, true, false, false, false, false, false, false, false, false, false] : Array Bool).setIfInBounds 11 true = #[true, true, true, true, true, true, true, true, true, true, true, true, false, false, false, false, false, false, false, false] from by kernel_rfl]
      exact st1_2_8_11_ a25 m25 c25 a28 m28 c28 w2 (btr hb hb2) (f25.below hb2) hf
    · refine M12 _ _ _ (by rw [eval_put _ 25 2 _ (by decide), eval_put _ 19 2 _ (by decide), eval_put _ 18 2 _ (by decide)]; exact E2) ⟨fun _ => HSB.out w1 hb, ?_⟩
      rw [show (#[true, true, true, true, true, true, true, true, true, true, true, false, false, false, false, false, false, false, false, false] : Array Bool).setIfInBounds 12 true = #[true, true, true, true, true, true, true, true, true, true, true, false, true, false, false, false, false, false, false, false] from by kernel_rfl]
      exact st1_2_8_12_ a25 m25 c25 w1 hb f25
  have st1_8_11_ : ∀ (a25 : Option Addr) (m25 c25 : Nat) (a28 : Option Addr) (m28 c28 : Nat) (w1 : World), Below W4.heap.size W4 w1 → Mine W4.heap.size w1 (.slice a25 m25 c25) (PA.data.take 491) → Mine W4.heap.size w1 (.slice a28 m28 c28) (PB.data.take 491) → T 9 #[true, true, false, true, true, true, true, true, true, true, true, true, false, false, false, false, false, false, false, false] (((A.put (some 18) (.int .u8 PA.kind)).put (some 25) (.slice a25 m25 c25)).put (some 28) (.slice a28 m28 c28)) w1 := by
    intro a25 m25 c25 a28 m28 c28 w1 hb f25 f28
    refine HT _ _ _ _ [2] (by rw [HR]; kernel_rfl) (by decide) ?_
    refine List.forall_mem_cons.2 ⟨?_, fun _ h => by cases h⟩
    · refine M2 _ _ _ (by rw [eval_put _ 28 18 _ (by decide), eval_put _ 25 18 _ (by decide)]; exact eval_hit _ 18 _ (by first | exact hsz ▸ (by decide) | simp [Act.put, hsz])) ⟨fun _ => HSB.out w1 hb, ?_⟩
      rw [show (#[true, true, false, true, true, true, true, true, true, true, true, true, false, false, false, false, false, false, false, false] : Array Bool).setIfInBounds 2 true = #[true, true, true, true, true, true, true, true, true, true, true, true, false, false, false, false, false, false, false, false] from by kernel_rfl, put_swap _ 28 19 _ _ (by decide), put_swap _ 25 19 _ _ (by decide)]
      exact st1_2_8_11_ a25 m25 c25 a28 m28 c28 w1 hb f25 f28
  have st8_11_ : ∀ (a25 : Option Addr) (m25 c25 : Nat) (a28 : Option Addr) (m28 c28 : Nat) (w1 : World), Below W4.heap.size W4 w1 → Mine W4.heap.size w1 (.slice a25 m25 c25) (PA.data.take 491) → Mine W4.heap.size w1 (.slice a28 m28 c28) (PB.data.take 491) → T 10 #[true, false, false, true, true, true, true, true, true, true, true, true, false, false, false, false, false, false, false, false] ((A.put (some 25) (.slice a25 m25 c25)).put (some 28) (.slice a28 m28 c28)) w1 := by
    intro a25 m25 c25 a28 m28 c28 w1 hb f25 f28
    refine HT _ _ _ _ [1] (by rw [HR]; kernel_rfl) (by decide) ?_
    refine List.forall_mem_cons.2 ⟨?_, fun _ h => by cases h⟩
    · refine M1 _ _ _ hb (by rw [eval_put _ 28 17 _ (by decide), eval_put _ 25 17 _ (by decide)]; exact E17) ⟨fun _ => HSB.out w1 hb, ?_⟩
      rw [show (#[true, false, false, true, true, true, true, true, true, true, true, true, false, false, false, false, false, false, false, false] : Array Bool).setIfInBounds 1 true = #[true, true, false, true, true, true, true, true, true, true, true, true, false, false, false, false, false, false, false, false] from by kernel_rfl, put_swap _ 28 18 _ _ (by decide), put_swap _ 25 18 _ _ (by decide)]
      exact st1_8_11_ a25 m25 c25 a28 m28 c28 w1 hb f25 f28
  have st1_2_ : ∀  (w1 : World), Below W4.heap.size W4 w1 → T 10 #[true, true, true, true, true, true, true, true, false, true, true, false, false, false, false, false, false, false, false, false] ((A.put (some 18) (.int .u8 PA.kind)).put (some 19) (.int .u8 (max (PA.kind : Int) 1))) w1 := by
    intro  w1 hb 
    refine HT _ _ _ _ [8, 12] (by rw [HR]; kernel_rfl) (by decide) ?_
    refine List.forall_mem_cons.2 ⟨?_, List.forall_mem_cons.2 ⟨?_, fun _ h => by cases h⟩⟩
    · refine M8 _ _ _ hb (by rw [eval_put _ 19 24 _ (by decide), eval_put _ 18 24 _ (by decide)]; exact E24) (fun a25 m25 c25 w2 hf hb2 => ⟨fun _ => HSB.out w2 (btr hb hb2), ?_⟩)
      rw [show (#[true, true, true, true, true, true, true, true, false, true, true, false, false, false, false, false, false, false, false, false] : Array Bool).setIfInBounds 8 true = #[true, true, true, true, true, true, true, true, true, true, true, false, false, false, false, false, false, false, false, false] from by kernel_rfl]
      exact st1_2_8_ a25 m25 c25 w2 (btr hb hb2) hf
    · refine M12 _ _ _ (by rw [eval_put _ 19 2 _ (by decide), eval_put _ 18 2 _ (by decide)]; exact E2) ⟨fun _ => HSB.out w1 hb, ?_⟩
      rw [show (#[true, true, true, true, true, true, true, true, false, true, true, false, false, false, false, false, false, false, false, false] : Array Bool).setIfInBounds 12 true = #[true, true, true, true, true, true, true, true, false, true, true, false, true, false, false, false, false, false, false, false] from by kernel_rfl]
      exact st1_2_12_  w1 hb 
  have st1_8_ : ∀ (a25 : Option Addr) (m25 c25 : Nat) (w1 : World), Below W4.heap.size W4 w1 → Mine W4.heap.size w1 (.slice a25 m25 c25) (PA.data.take 491) → T 10 #[true, true, false, true, true, true, true, true, true, true, true, false, false, false, false, false, false, false, false, false] ((A.put (some 18) (.int .u8 PA.kind)).put (some 25) (.slice a25 m25 c25)) w1 := by
    intro a25 m25 c25 w1 hb f25
    refine HT _ _ _ _ [2, 11] (by rw [HR]; kernel_rfl) (by decide) ?_
    refine List.forall_mem_cons.2 ⟨?_, List.forall_mem_cons.2 ⟨?_, fun _ h => by cases h⟩⟩
    · refine M2 _ _ _ (by rw [eval_put _ 25 18 _ (by decide)]; exact eval_hit _ 18 _ (by first | exact hsz ▸ (by decide) | simp [Act.put, hsz])) ⟨fun _ => HSB.out w1 hb, ?_⟩
      rw [show (#[true, true, false, true, true, true, true, true, true, true, true, false, false, false, false, false, false, false, false, false] : Array Bool).setIfInBounds 2 true = #[true, true, true, true, true, true, true, true, true, true, true, false, false, false, false, false, false, false, false, false] from by kernel_rfl, put_swap _ 25 19 _ _ (by decide)]
      exact st1_2_8_ a25 m25 c25 w1 hb f25
    · refine M11 _ _ _ hb (by rw [eval_put _ 25 27 _ (by decide), eval_put _ 18 27 _ (by decide)]; exact E27) (fun a28 m28 c28 w2 hf hb2 => ⟨fun _ => HSB.out w2 (btr hb hb2), ?_⟩)
      rw [show (#[true, true, false, true, true, true, true, true, true, true, true, false, false, false, false, false, false, false, false, false] : Array Bool).setIfInBounds 11 true = #[true, true, false, true, true, true, true, true, true, true, true, true, false, false, false, false, false, false, false, false] from by kernel_rfl]
      exact st1_8_11_ a25 m25 c25 a28 m28 c28 w2 (btr hb hb2) (f25.below hb2) hf
  have st8_ : ∀ (a25 : Option Addr) (m25 c25 : Nat) (w1 : World), Below W4.heap.size W4 w1 → Mine W4.heap.size w1 (.slice a25 m25 c25) (PA.data.take 491) → T 11 #[true, false, false, true, true, true, true, true, true, true, true, false, false, false, false, false, false, false, false, false] (A.put (some 25) (.slice a25 m25 c25)) w1 := by
    intro a25 m25 c25 w1 hb f25
    refine HT _ _ _ _ [1, 11] (by rw [HR]; kernel_rfl) (by decide) ?_
    refine List.forall_mem_cons.2 ⟨?_, List.forall_mem_cons.2 ⟨?_, fun _ h => by cases h⟩⟩
    · refine M1 _ _ _ hb (by rw [eval_put _ 25 17 _ (by decide)]; exact E17) ⟨fun _ => HSB.out w1 hb, ?_⟩
      rw [show (#[true, false, false, true, true, true, true, true, true, true, true, false, false, false, false, false, false, false, false, false] : Array Bool).setIfInBounds 1 true = #[true, true, false, true, true, true, true, true, true, true, true, false, false, false, false, false, false, false, false, false] from by kernel_rfl, put_swap _ 25 18 _ _ (by decide)]
      exact st1_8_ a25 m25 c25 w1 hb f25
    · refine M11 _ _ _ hb (by rw [eval_put _ 25 27 _ (by decide)]; exact E27) (fun a28 m28 c28 w2 hf hb2 => ⟨fun _ => HSB.out w2 (btr hb hb2), ?_⟩)
      rw [show (#[true, false, false, true, true, true, true, true, true, true, true, false, false, false, false, false, false, false, false, false] : Array Bool).setIfInBounds 11 true = #[true, false, false, true, true, true, true, true, true, true, true, true, false, false, false, false, false, false, false, false] from by kernel_rfl]
      exact st8_11_ a25 m25 c25 a28 m28 c28 w2 (btr hb hb2) (f25.below hb2) hf
  have st1_ : ∀  (w1 : World), Below W4.heap.size W4 w1 → T 11 #[true, true, false, true, true, true, true, true, false, true, true, false, false, false, false, false, false, false, false, false] (A.put (some 18) (.int .u8 PA.kind)) w1 := by
    intro  w1 hb 
    refine HT _ _ _ _ [2, 8] (by rw [HR]; kernel_rfl) (by decide) ?_
    refine List.forall_mem_cons.2 ⟨?_, List.forall_mem_cons.2 ⟨?_, fun _ h => by cases h⟩⟩
    · refine M2 _ _ _ (by exact eval_hit _ 18 _ (by first | exact hsz ▸ (by decide) | simp [Act.put, hsz])) ⟨fun _ => HSB.out w1 hb, ?_⟩
      rw [show (#[true, true, false, true, true, true, true, true, false, true, true, false, false, false, false, false, false, false, false, false] : Array Bool).setIfInBounds 2 true = #[true, true, true, true, true, true, true, true, false, true, true, false, false, false, false, false, false, false, false, false] from by kernel_rfl]
      exact st1_2_  w1 hb 
    · refine M8 _ _ _ hb (by rw [eval_put _ 18 24 _ (by decide)]; exact E24) (fun a25 m25 c25 w2 hf hb2 => ⟨fun _ => HSB.out w2 (btr hb hb2), ?_⟩)
      rw [show (#[true, true, false, true, true, true, true, true, false, true, true, false, false, false, false, false, false, false, false, false] : Array Bool).setIfInBounds 8 true = #[true, true, false, true, true, true, true, true, true, true, true, false, false, false, false, false, false, false, false, false] from by kernel_rfl]
      exact st1_8_ a25 m25 c25 w2 (btr hb hb2) hf
  have st : ∀  (w1 : World), Below W4.heap.size W4 w1 → T 12 #[true, false, false, true, true, true, true, true, false, true, true, false, false, false, false, false, false, false, false, false] A w1 := by
    intro  w1 hb 
    refine HT _ _ _ _ [1, 8] (by rw [HR]; kernel_rfl) (by decide) ?_
    refine List.forall_mem_cons.2 ⟨?_, List.forall_mem_cons.2 ⟨?_, fun _ h => by cases h⟩⟩
    · refine M1 _ _ _ hb (by exact E17) ⟨fun _ => HSB.out w1 hb, ?_⟩
      rw [show (#[true, false, false, true, true, true, true, true, false, true, true, false, false, false, false, false, false, false, false, false] : Array Bool).setIfInBounds 1 true = #[true, true, false, true, true, true, true, true, false, true, true, false, false, false, false, false, false, false, false, false] from by kernel_rfl]
      exact st1_  w1 hb 
    · refine M8 _ _ _ hb (by exact E24) (fun a25 m25 c25 w2 hf hb2 => ⟨fun _ => HSB.out w2 (btr hb hb2), ?_⟩)
      rw [show (#[true, false, false, true, true, true, true, true, false, true, true, false, false, false, false, false, false, false, false, false] : Array Bool).setIfInBounds 8 true = #[true, false, false, true, true, true, true, true, true, true, true, false, false, false, false, false, false, false, false, false] from by kernel_rfl]
      exact st8_ a25 m25 c25 w2 (btr hb hb2) hf
  exact st _ (bdr (bre W4))
end Go.Proofs.YtbdjjjnajkeceaaDoor
