/- The arena: no node's kids' row is one of those that are kept apart. Put, once more. -/
import Derived.Test.YtljdphpbalioaaaGreatDoorGnA
namespace Go.Proofs.YtljdphpbalioaaaGreatDoor
open Go.RowKit

/-- the rows of a node's kids are of Q -/
def rowQ (Q : Nat → Prop) (v : Value) : Prop := ∀ n kv, v = NdVal n kv → ∀ q, kv.ownBlock = some q → Q q
def ArFar (w : World) (b : Nat) (Q : Nat → Prop) : Prop := ∃ vl, MapU Tryz.prog 34 w b vl ∧ ∀ p ∈ vl, rowQ Q p.2
theorem ArFar.below {w w' : World} {b : Nat} {Q : Nat → Prop} (h : ArFar w b Q) (hb : Below w.heap.size w w') : ArFar w' b Q := by
  obtain ⟨vl, h1, h2⟩ := h
  exact ⟨vl, h1.below hb, h2⟩
theorem ArFar.only {w w' : World} {b : Nat} {Q S : Nat → Prop} (h : ArFar w b Q) (ho : Only w w' S) (hs : ¬ S b) : ArFar w' b Q := by
  obtain ⟨vl, h1, h2⟩ := h
  exact ⟨vl, h1.only ho hs, h2⟩
theorem ArFar.mono {w : World} {b : Nat} {Q Q' : Nat → Prop} (h : ArFar w b Q) (hq : ∀ q, Q q → Q' q) : ArFar w b Q' := by
  obtain ⟨vl, h1, h2⟩ := h
  exact ⟨vl, h1, fun p hp n kv e q hk => hq q (h2 p hp n kv e q hk)⟩
theorem ArFar.store {w w' : World} {b g : Nat} {Q : Nat → Prop} {l : List (Nat × Nd)} (h : ArFar w b Q) (x : Nat) (hx : x < 18446744073709551616) (v : Value) (hrun : (Instr.mapUpdate 59 (.map (some b)) (.int .u64 x) v).run Tryz.prog w = .ok () w') (hfew : l.length ≤ 20000) (hv : ∀ q, (∀ n kv, v = NdVal n kv → kv.ownBlock = some q) → Q q) (ha : ArAt w g b l) : ArFar w' b Q := by
  obtain ⟨vl, h1, h2⟩ := h
  have e1 := h1.len (t := 59) Tryz.underlying59 0
  have e2 := ha.len 0
  have e3 : vl.length = l.length := by
    have h5 := Result.ok.inj (e1.symm.trans e2)
    have h6 := Value.int.inj h5.1
    omega
  obtain ⟨w2, hrun2, g1, -, -⟩ := h1.store (t := 59) Tryz.underlying34 Tryz.underlying59 x hx v (by unfold maxLen; omega)
  have e4 : w2 = w' := by
    exact (Result.ok.inj (hrun2.symm.trans hrun)).2
  rw [e4] at g1
  refine ⟨_, g1, fun p hp => ?_⟩
  rcases mem_insA.1 hp with rfl | hp
  · intro n kv e q hk
    refine hv q fun n' kv' e' => ?_
    have e5 : NdVal n kv = NdVal n' kv' := e.symm.trans e'
    unfold NdVal at e5
    have e5 := Value.agg.inj e5
    have e6 := congrArg Array.toList e5
    simp only [List.cons.injEq, and_true] at e6
    rw [← e6.2.2.2.2.2]
    exact hk
  · exact h2 p (List.mem_filter.1 hp).1
set_option maxRecDepth 10000 in
set_option maxHeartbeats 1600000 in
theorem arput_far (g b : Nat) (l : List (Nat × Nd)) (x : Nat) (v : Value) (n : Nd) (w : World) (Q : Nat → Prop) (hfar : ArFar w b Q) (hQ : ∀ q, w.heap.size ≤ q → Q q) (h : ArAt w g b l) (hv : NdAt w v n) (hx : x < 18446744073709551616) (hx0 : x ≠ 0) (hroom : (getA l x).isSome = true ∨ l.length < 20000) :
    Calls Tryz.prog 30 #[.pointer (some ⟨g, 0, none⟩), .int .u64 x, v] w fun e w' => e = .returned (.int .i64 0) ∧ ArAt w' g b (putA l x n) ∧ Only w w' (fun q => q = b) ∧ ArFar w' b Q := by
  obtain ⟨kv, rfl, hkk, okk⟩ := hv
  obtain ⟨ka, kc, rfl, -⟩ := id hkk
  have HKK := Lib.hid hkk
  have HOK := Lib.hid okk
  have H := Lib.hid h
  have HF := Lib.hid hfar
  have HQ := Lib.hid hQ
  have hlen : (putA l x n).length ≤ 20000 := by
    unfold putA
    rw [length_insA]
    cases hg : getA l x with
    | none =>
      rw [delA_not l x hg]
      rcases hroom with hr | hr
      · rw [hg] at hr; cases hr
      · omega
    | some y =>
      have := length_del_some h.asc hg
      have := h.few
      omega
  have HLEN := Lib.hid hlen
  obtain ⟨bo, hbo⟩ : ∃ q, q = (getA l x).isSome := ⟨_, rfl⟩
  have HBO := Lib.hid hbo
  obtain ⟨L, hL⟩ : ∃ q, q = l.length := ⟨_, rfl⟩
  have HL := Lib.hid hL
  rw [← hbo, ← hL] at hroom
  have HROOM := Lib.hid hroom
  obtain ⟨KL, hK⟩ : ∃ q, q = n.kids.length := ⟨_, rfl⟩
  rw [← hK] at HKK
  unfold NdVal
  rw [← hK]
  have q1 : ((x : Int) == 0) = false := beq_false_of_ne (by omega)
  have q2 : decide ((x : Int) = 0) = false := decide_eq_false (by omega)
  have HX0 := Lib.hid hx0
  clear hfar hQ h hkk okk hlen hbo hL hroom hK hx0
  go_enter Tryz.func30, Tryz.ntmps30
  go_upto_region 3 with fail
  have hb0 := bal (bre w) (.cells #[.int .u8 n.kind, .string n.name, .int .i64 n.num, .int .u8 n.typ, .int .u64 n.ref, .slice ka KL kc] 37)
  have hr0 := heap_alloc_new w (.cells #[.int .u8 n.kind, .string n.name, .int .i64 n.num, .int .u8 n.typ, .int .u64 n.ref, .slice ka KL kc] 37)
  generalize w.alloc (.cells #[.int .u8 n.kind, .string n.name, .int .i64 n.num, .int .u8 n.typ, .int .u64 n.ref, .slice ka KL kc] 37) = W at *
  obtain ⟨n5, hn5⟩ : ∃ n, n = w.heap.size := ⟨_, rfl⟩
  rw [← hn5] at hr0 ⊢
  have hR5 : Row6 W n5 n (.slice ka KL kc) := hr0
  have HR5 := Lib.hid hR5
  have HA := Lib.hid (H.out.below hb0)
  obtain ⟨kv2, r1, -, hk2, -⟩ := HA.out.look x hx
  obtain ⟨ka2, kc2, rfl⟩ := hk2.slice
  obtain ⟨n2, hn2⟩ : ∃ q, q = atN l x := ⟨_, rfl⟩
  rw [← hn2, ← HBO.out] at r1
  unfold NdVal at r1
  have c0 := HA.out.c0
  have HB := Lib.hid hb0
  have HKW := Lib.hid (HKK.out.below hb0)
  have hlen := fun ty => HA.out.len ty
  rw [← HL.out] at hlen
  clear hb0 hr0 hR5 hk2 hn2 hn5 H HKK
  go_upto_block 0 with fail
  have hb1 := bal (bre W) (.cells #[.int .u8 n2.kind, .string n2.name, .int .i64 n2.num, .int .u8 n2.typ, .int .u64 n2.ref, .slice ka2 n2.kids.length kc2] 37)
  generalize W.alloc (.cells #[.int .u8 n2.kind, .string n2.name, .int .i64 n2.num, .int .u8 n2.typ, .int .u64 n2.ref, .slice ka2 n2.kids.length kc2] 37) = W1 at *
  have HA1 := Lib.hid (HA.out.below hb1)
  have HR1 := Lib.hid (HR5.out.below hb1)
  have HB1 := Lib.hid (btr HB.out hb1)
  have HF1 := Lib.hid (HF.out.below (btr HB.out hb1))
  have HK1 := Lib.hid (HKW.out.below hb1)
  have hlen := fun ty => HA1.out.len ty
  rw [← HL.out] at hlen
  have c0 := HA1.out.c0
  clear hb1 r1 HA HR5 HB HKW
  go_cut [20, 23] from 21 to 33 (fun _ _ w' => w' = W1)
  case first =>
    cases bo with
    | true =>
      go_wp2_with fail
      go_meet
      case rel => rfl
    | false =>
      have d1 : decide ((20000 : Int) ≤ (L : Int)) = false := decide_eq_false (by rcases HROOM.out with h | h; cases h; omega)
      have d1n : decide (20000 ≤ L) = false := decide_eq_false (by rcases HROOM.out with h | h; cases h; omega)
      go_wp2_with fail
      go_meet
      case rel => rfl
  case rest =>
  rename World => wc
  have hwc' := hcut.symm
  subst hwc'
  clear hcut
  go_upto_region 8 with fail
  have HSB : Hid (∀ w', Below W1.heap.size W1 w' → (w'.cell? ⟨g, 0, none⟩ = some (.map (some b)) ∧ w'.cell? ⟨n5, 0, none⟩ = some (.int .u8 n.kind) ∧ w'.cell? ⟨n5, 1, none⟩ = some (.string n.name) ∧ w'.cell? ⟨n5, 2, none⟩ = some (.int .i64 n.num) ∧ w'.cell? ⟨n5, 3, none⟩ = some (.int .u8 n.typ) ∧ w'.cell? ⟨n5, 4, none⟩ = some (.int .u64 n.ref) ∧ w'.cell? ⟨n5, 5, none⟩ = some (.slice ka KL kc))) := Lib.hid (fun w' hb => ⟨(HA1.out.below hb).c0, (HR1.out.below hb).c0, (HR1.out.below hb).c1, (HR1.out.below hb).c2, (HR1.out.below hb).c3, (HR1.out.below hb).c4, (HR1.out.below hb).c5⟩)
  refine region_anyZ (z := 7) (S := fun w' => (w'.cell? ⟨g, 0, none⟩ = some (.map (some b)) ∧ w'.cell? ⟨n5, 0, none⟩ = some (.int .u8 n.kind) ∧ w'.cell? ⟨n5, 1, none⟩ = some (.string n.name) ∧ w'.cell? ⟨n5, 2, none⟩ = some (.int .i64 n.num) ∧ w'.cell? ⟨n5, 3, none⟩ = some (.int .u8 n.typ) ∧ w'.cell? ⟨n5, 4, none⟩ = some (.int .u64 n.ref) ∧ w'.cell? ⟨n5, 5, none⟩ = some (.slice ka KL kc))) (by kernel_rfl) ?_
  refine anyZ_begin (fun hcl0 => ?_)
  refine anyZ_held (by exact HSB.out _ (bdr (bre W1))) (fun hHeld => ?_)
  -- 0: Op.move (Operand.tmp 0)
  refine' anyZ_pure (i := 0) (v := _) rfl (by rfl) (by kernel_rfl) (by kernel_rfl) (by kernel_rfl) hcl0 (fun _ _ _ h => h) (Or.inl ⟨by rfl, fun w _ => ?hz1⟩) (fun _ => hHeld) (fun hcl1 => ?rz1)
  case hz1 => (simp only [List.getElem_toArray, List.getElem_cons_zero]; first | (go_simp; with_reducible rfl) | (go_simp; done) | rfl)
  simp only [List.getElem_toArray, List.getElem_cons_zero, Act.put, List.setIfInBounds_toArray, List.set_cons_zero, List.set_cons_succ]
  -- 1: Op.nilCheck (Operand.tmp 34)
  refine' anyZ_pure (i := 1) (v := _) rfl (by rfl) (by kernel_rfl) (by kernel_rfl) (by kernel_rfl) hcl1 (fun _ _ _ h => h) (Or.inl ⟨by rfl, fun w _ => ?hz2⟩) (fun _ => hHeld) (fun hcl2 => ?rz2)
  case hz2 => (simp only [List.getElem_toArray, List.getElem_cons_succ, List.getElem_cons_zero]; first | (go_simp; with_reducible rfl) | (go_simp; done) | rfl)
  simp only [List.getElem_toArray, List.getElem_cons_succ, List.getElem_cons_zero, Act.put, List.setIfInBounds_toArray, List.set_cons_zero, List.set_cons_succ]
  -- 2: Op.fieldAddr 70 (Operand.tmp 35) 0
  refine' anyZ_pure (i := 2) (v := _) rfl (by rfl) (by kernel_rfl) (by kernel_rfl) (by kernel_rfl) hcl2 (fun _ _ _ h => h) (Or.inl ⟨by rfl, fun w _ => ?hz3⟩) (fun _ => hHeld) (fun hcl3 => ?rz3)
  case hz3 => (simp only [List.getElem_toArray, List.getElem_cons_succ, List.getElem_cons_zero]; first | (go_simp; with_reducible rfl) | (go_simp; done) | rfl)
  simp only [List.getElem_toArray, List.getElem_cons_succ, List.getElem_cons_zero, Act.put, List.setIfInBounds_toArray, List.set_cons_zero, List.set_cons_succ]
  -- 3: Op.load 68 (Operand.tmp 36)
  refine' anyZ_take (i := 3) (v := _) rfl (by rfl) (by kernel_rfl) (by kernel_rfl) (by kernel_rfl) hcl3 8 (by kernel_rfl) (by kernel_rfl) (fun _ _ _ h => h) (Or.inl ⟨by rfl, fun w hSw => ?hz4⟩) hHeld (fun hcl4 => ?rz4)
  case hz4 => (simp only [List.getElem_toArray, List.getElem_cons_succ, List.getElem_cons_zero]; obtain ⟨hS1, hS2, hS3, hS4, hS5, hS6, hS7⟩ := hSw; first | (go_simp; with_reducible rfl) | (go_simp; done) | rfl)
  simp only [List.getElem_toArray, List.getElem_cons_succ, List.getElem_cons_zero, Act.put, List.setIfInBounds_toArray, List.set_cons_zero, List.set_cons_succ]
  -- 4: Op.move (Operand.tmp 1)
  refine' anyZ_pure (i := 4) (v := _) rfl (by rfl) (by kernel_rfl) (by kernel_rfl) (by kernel_rfl) hcl4 (fun _ _ _ h => h) (Or.inl ⟨by rfl, fun w _ => ?hz5⟩) (fun _ => hHeld) (fun hcl5 => ?rz5)
  case hz5 => (simp only [List.getElem_toArray, List.getElem_cons_succ, List.getElem_cons_zero]; first | (go_simp; with_reducible rfl) | (go_simp; done) | rfl)
  simp only [List.getElem_toArray, List.getElem_cons_succ, List.getElem_cons_zero, Act.put, List.setIfInBounds_toArray, List.set_cons_zero, List.set_cons_succ]
  -- 5: Op.load 29 (Operand.tmp 5)
  refine' anyZ_take (i := 5) (v := _) rfl (by rfl) (by kernel_rfl) (by kernel_rfl) (by kernel_rfl) hcl5 8 (by kernel_rfl) (by kernel_rfl) (fun _ _ _ h => h) (Or.inl ⟨by rfl, fun w hSw => ?hz6⟩) hHeld (fun hcl6 => ?rz6)
  case hz6 => (simp only [List.getElem_toArray, List.getElem_cons_succ, List.getElem_cons_zero]; obtain ⟨hS1, hS2, hS3, hS4, hS5, hS6, hS7⟩ := hSw; first | (go_simp; with_reducible rfl) | (go_simp; done) | rfl)
  simp only [List.getElem_toArray, List.getElem_cons_succ, List.getElem_cons_zero, Act.put, List.setIfInBounds_toArray, List.set_cons_zero, List.set_cons_succ]
  -- 6: Op.call { callee := Callee.value (Operand.func 27), args := 
  refine anyZ_one (i := 6) hcl6 (by kernel_rfl) (by simp only [List.getElem?_toArray, List.getElem?_cons_succ, List.getElem?_cons_zero]; rfl) (by rfl) (fun hcl7 K hK => ?_)
  go_simp
  refine (whole_any _ n W1.drew ⟨.slice ka KL kc, rfl, HK1.out.below (bdr (bre W1)), HOK.out⟩).mono ?_
  rintro e W3 ⟨v3, rfl, ho3, hb3⟩
  have hb3' := btr (bdr (bre W1)) hb3
  have HO3 := Lib.hid (ho3.base (Nat.zero_le _))
  have HO3B := Lib.hid ho3
  have HA3 := Lib.hid (HA1.out.below hb3')
  have HB3 := Lib.hid (btr HB1.out hb3')
  have HX3 := Lib.hid hb3'
  clear ho3 hb3 hb3'
  refine hK _ _ (fun _ => ?_) ?_
  · exact HSB.out _ HX3.out
  clear hK K hHeld
  try simp only [Act.put, List.setIfInBounds_toArray, List.set_cons_zero, List.set_cons_succ]
  refine anyZ_chain_at (by kernel_rfl) ?_
  simp only [List.drop_succ_cons, List.drop_zero]
  obtain ⟨W4, hrun, ha4, ho4, hs4⟩ := HA3.out.store x hx HX0.out v3 n HO3.out HLEN.out
  have HF4 : Hid (ArFar W4 b Q) := Lib.hid ((HF1.out.below HX3.out).store x hx v3 hrun (HA3.out.few) (fun q hq => HQ.out q (by
    obtain ⟨kv3, e3, ho3, -⟩ := HO3B.out
    have h1 := (ho3.lt q (hq _ _ e3)).1
    have h2 := HB1.out.size
    have h3 : W1.drew.heap.size = W1.heap.size := rfl
    omega)) HA3.out)
  have HA4 := Lib.hid ha4
  have HO4 := Lib.hid (((Only.of_below HB3.out (fun q => q = b)).trans ho4 fun _ _ h => h))
  clear ha4 ho4 hs4
  go_wp2_with fail
  go_ret
  exact ⟨rfl, HA4.out, HO4.out, HF4.out⟩
end Go.Proofs.YtljdphpbalioaaaGreatDoor
