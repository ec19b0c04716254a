/- Walk: the serial of what is written. -/
import Derived.Test.YtacfkhnajdneeaaDoorRlFollow
import Derived.Test.YtacfkhnajdneeaaDoorDkNow
namespace Go.Proofs.YtacfkhnajdneeaaDoor
open Go.RowKit

/-- eight cells of a reel -/
def RlRow (w : World) (g gd gen fr n serial : Nat) (vl vp vs : Value) : Prop :=
  w.heap[g]? = some (.cells #[.pointer (some ⟨gd, 0, none⟩), .int .u32 gen, .int .i64 fr, .int .i64 n, vl, vp, .int .u32 serial, vs] 99 (0, 0))

section
variable {w w' : World} {g gd gen fr n serial : Nat} {vl vp vs : Value}
theorem RlRow.lt (h : RlRow w g gd gen fr n serial vl vp vs) : g < w.heap.size := (Array.getElem?_eq_some_iff.1 h).1
theorem RlRow.only {S : Nat → Prop} (h : RlRow w g gd gen fr n serial vl vp vs) (ho : Only w w' S) (hn : ¬ S g) : RlRow w' g gd gen fr n serial vl vp vs := (ho.block g h.lt hn).trans h
theorem RlRow.below (h : RlRow w g gd gen fr n serial vl vp vs) (hb : Below w.heap.size w w') : RlRow w' g gd gen fr n serial vl vp vs := (hb.block g h.lt).trans h
theorem RlRow.c0 (h : RlRow w g gd gen fr n serial vl vp vs) : w.cell? ⟨g, 0, none⟩ = some (.pointer (some ⟨gd, 0, none⟩)) := cell_of_row w g 0 _ _ _ h
theorem RlRow.c1 (h : RlRow w g gd gen fr n serial vl vp vs) : w.cell? ⟨g, 1, none⟩ = some (.int .u32 gen) := cell_of_row w g 1 _ _ _ h
theorem RlRow.c2 (h : RlRow w g gd gen fr n serial vl vp vs) : w.cell? ⟨g, 2, none⟩ = some (.int .i64 fr) := cell_of_row w g 2 _ _ _ h
theorem RlRow.c3 (h : RlRow w g gd gen fr n serial vl vp vs) : w.cell? ⟨g, 3, none⟩ = some (.int .i64 n) := cell_of_row w g 3 _ _ _ h
theorem RlRow.c4 (h : RlRow w g gd gen fr n serial vl vp vs) : w.cell? ⟨g, 4, none⟩ = some vl := cell_of_row w g 4 _ _ _ h
theorem RlRow.c5 (h : RlRow w g gd gen fr n serial vl vp vs) : w.cell? ⟨g, 5, none⟩ = some vp := cell_of_row w g 5 _ _ _ h
theorem RlRow.c6 (h : RlRow w g gd gen fr n serial vl vp vs) : w.cell? ⟨g, 6, none⟩ = some (.int .u32 serial) := cell_of_row w g 6 _ _ _ h
theorem RlRow.c7 (h : RlRow w g gd gen fr n serial vl vp vs) : w.cell? ⟨g, 7, none⟩ = some vs := cell_of_row w g 7 _ _ _ h
theorem RlRow.fz (h : RlRow w g gd gen fr n serial vl vp vs) (i : Nat) : w.frozen? ⟨g, i, none⟩ = false := frozen_of_row w g i _ _ h
theorem RlRow.put6 (h : RlRow w g gd gen fr n serial vl vp vs) (s : Nat) : RlRow (w.setCell ⟨g, 6, none⟩ (.int .u32 s)) g gd gen fr n s vl vp vs := heap_setCell_same w g 6 _ _ _ h
theorem RlRow.put7 (h : RlRow w g gd gen fr n serial vl vp vs) (v : Value) : RlRow (w.setCell ⟨g, 7, none⟩ v) g gd gen fr n serial vl vp v := heap_setCell_same w g 7 _ _ _ h
theorem RlRow.put4 (h : RlRow w g gd gen fr n serial vl vp vs) (v : Value) : RlRow (w.setCell ⟨g, 4, none⟩ v) g gd gen fr n serial v vp vs := heap_setCell_same w g 4 _ _ _ h
theorem RlRow.put5 (h : RlRow w g gd gen fr n serial vl vp vs) (v : Value) : RlRow (w.setCell ⟨g, 5, none⟩ v) g gd gen fr n serial vl v vs := heap_setCell_same w g 5 _ _ _ h
end

/-- the sectors of a half -/
def halfOf (d : Dk) (fr n : Nat) : List (List UInt8) := (List.range n).map fun j => d.now (fr + j)

def topStep (gen t : Nat) (b : List UInt8) : Nat := if (parseOf b).1 = 0 ∧ (parseOf b).2.gen = gen then max t (parseOf b).2.serial else t
/-- the greatest serial of a generation -/
def topOf (gen s : Nat) (bs : List (List UInt8)) : Nat := bs.foldl (topStep gen) s

theorem half_take (d : Dk) (fr n k : Nat) (hk : k < n) : (halfOf d fr n).take (k + 1) = (halfOf d fr n).take k ++ [d.now (fr + k)] := by
  have hl : k < (halfOf d fr n).length := by unfold halfOf; simp [hk]
  have e : (halfOf d fr n)[k]? = some (d.now (fr + k)) := by
    unfold halfOf
    rw [List.getElem?_map, List.getElem?_range hk]
    rfl
  rw [List.take_succ_eq_append_getElem hl, (List.getElem?_eq_some_iff.1 e).2]
theorem half_whole (d : Dk) (fr n : Nat) : (halfOf d fr n).take n = halfOf d fr n := List.take_of_length_le (by unfold halfOf; simp)
theorem top_take (gen s : Nat) (d : Dk) (fr n k : Nat) (hk : k < n) : topOf gen s ((halfOf d fr n).take (k + 1)) = topStep gen (topOf gen s ((halfOf d fr n).take k)) (d.now (fr + k)) := by
  rw [half_take d fr n k hk]
  unfold topOf
  rw [List.foldl_append]
  rfl
theorem val_take4' (l : List UInt8) : val (l.take 4) < 4294967296 := by
  match l.take 4, (show (l.take 4).length ≤ 4 by rw [List.length_take]; omega) with
  | [], _ => decide
  | [a], _ => have := a.toNat_lt; show 256 * 0 + a.toNat < _; omega
  | [a, b], _ => have := a.toNat_lt; have := b.toNat_lt; rw [val2]; omega
  | [a, b, c], _ => have := a.toNat_lt; have := b.toNat_lt; have := c.toNat_lt; show 256 * (256 * (256 * 0 + a.toNat) + b.toNat) + c.toNat < _; omega
  | [a, b, c, d], _ => have := a.toNat_lt; have := b.toNat_lt; have := c.toNat_lt; have := d.toNat_lt; show 256 * (256 * (256 * (256 * 0 + a.toNat) + b.toNat) + c.toNat) + d.toNat < _; omega
theorem parse_good (b : List UInt8) : (parseOf b).2.Ok := by
  have h0 : Pg.zero.Ok := ⟨by decide, by decide, by decide, by decide⟩
  unfold parseOf
  split
  · exact h0
  · split
    · exact h0
    · split
      · exact h0
      · split
        · exact h0
        · exact ⟨val_take4' _, val_take4' _, val_take4' _, UInt8.toNat_lt _⟩
theorem top_lt (gen : Nat) : ∀ (bs : List (List UInt8)) (s : Nat), s < 4294967296 → topOf gen s bs < 4294967296 := by
  intro bs
  induction bs with
  | nil => intro s hs; exact hs
  | cons b rest ih =>
    intro s hs
    refine ih (topStep gen s b) ?_
    have := (parse_good b).serial
    unfold topStep
    split
    · exact Nat.max_lt.2 ⟨hs, this⟩
    · exact hs

/-- 'max(x, y)' of two that are not negative -/
theorem wpList_max {P : Program} {w : World} {ops : Array Oper} {rest : List Oper} {o : Oper} {a : Act} {Q : Exit → Act → World → Prop} (hgd : o.guard = none) (x y : Operand) (ts : Array TypeId)
    (ho : o.op = .call { callee := .builtin .max, args := #[x, y], argTypes := ts }) (k : IntKind) (m n : Nat) (hx : a.eval x = .int k m) (hy : a.eval y = .int k n)
    (h : wpList P ops Q rest (a.put o.dst (.int k (max m n : Nat))) w) : wpList P ops Q (o :: rest) a w := by
  have e : (if (n : Int) > (m : Int) then (n : Int) else (m : Int)) = ((max m n : Nat) : Int) := by
    split <;> omega
  refine wpList_yields hgd (.int k (max m n : Nat)) w ?_ h
  unfold execOp
  simp only [ho, resolve, invoke, builtin, Sem.run_bind, Sem.run_pure, Result.andThen_ok, List.map_toArray, List.map_cons, List.map_nil, hx, hy, run_max_int2, e]

theorem page_new (w : World) (p : Pg) (v : Value) : Row5 (w.alloc (.cells #[.int .u32 p.gen, .int .u32 p.serial, .int .u32 p.number, .int .u8 p.kind, v] 122)) w.heap.size p v := heap_alloc_new w _

set_option maxRecDepth 20000 in
set_option maxHeartbeats 1600000 in
theorem rnum_any (g gd gen fr n serial : Nat) (vl vp vs : Value) (d : Dk) (F : Nat → Prop) (w : World) (hd : DiskAt w gd d F) (hr : RlRow w g gd gen fr n serial vl vp vs) (hn : fr + n ≤ d.safe.length) (hw : d.wait.length ≤ 1000000) (hs : serial < 4294967296) :
    Calls Tryd.prog 53 #[.pointer (some ⟨g, 0, none⟩)] w fun e w' => e = .returned (.tuple #[]) ∧ RlRow w' g gd gen fr n ((topOf gen serial (halfOf d fr n) + 1) % 4294967296) vl vp vs ∧ Only w w' (fun k => k = g) := by
  have hfew := hd.ok.few
  have HD := Lib.hid hd
  have HN := Lib.hid hn
  have HW := Lib.hid hw
  have HS := Lib.hid hs
  have HR := Lib.hid hr
  have c3 := hr.c3
  have c6 := hr.c6
  have hn4 : fr + n ≤ 4096 := by omega
  have hgl := hr.lt
  clear hd hn hw hs hfew hr
  go_enter Tryd.func53, Tryd.ntmps53
  go_wp2_with fail
  clear c3 c6
  go_loopw [2, 16] (fun t i wr => ∃ k : Nat, k ≤ n ∧ i = .int .i64 k ∧ t = .int .u32 (topOf gen serial ((halfOf d fr n).take k)) ∧ Hid (Below w.heap.size w wr)) (fun _ i _ => n - (intOf i).toNat)
  case atStart => exact ⟨0, by omega, rfl, rfl, Lib.hid (bre w)⟩
  case round =>
    obtain ⟨k, hk, rfl, rfl, hb⟩ := hrel
    by_cases hlt : k < n
    · have hts := top_take gen serial d fr n k hlt
      have hq := top_lt gen ((halfOf d fr n).take k) serial HS.out
      obtain ⟨b, hbe⟩ : ∃ b, b = d.now (fr + k) := ⟨_, rfl⟩
      rw [← hbe] at hts
      have HBE := Lib.hid hbe
      have HTS := Lib.hid hts
      obtain ⟨t0, ht0⟩ : ∃ t, t = topOf gen serial ((halfOf d fr n).take k) := ⟨_, rfl⟩
      rw [← ht0] at HTS hq ⊢
      have hrw := HR.out.below hb.out
      have HRW := Lib.hid hrw
      have x0 := hrw.c0
      have x2 := hrw.c2
      have hglw := hrw.lt
      have d1 : decide ((k : Int) < n) = true := decide_eq_true (by omega)
      have d1n : decide (k < n) = true := decide_eq_true hlt
      clear hts hbe ht0 hrw
      go_upto_region 4 with fail
      have HSB : Hid (∀ w', Below wr.heap.size wr w' → (w'.cell? ⟨g, 0, none⟩ = some (.pointer (some ⟨gd, 0, none⟩)) ∧ w'.cell? ⟨g, 2, none⟩ = some (.int .i64 fr))) := Lib.hid fun w' hb => ⟨(hb.cell (p := ⟨g, 0, none⟩) hglw).trans x0, (hb.cell (p := ⟨g, 2, none⟩) hglw).trans x2⟩
      obtain ⟨m, hm⟩ : ∃ m, m = fr + k := ⟨_, rfl⟩
      have hadd : IntKind.i64.wrap (m : Int) = (m : Int) := by rw [IntKind.wrap_i64]; omega
      have hadd2 : (fr : Int) + (k : Int) = (m : Int) := by omega
      have HM := Lib.hid hm
      clear hm
      have HB := Lib.hid hb.out
      clear x0 x2 hb
      refine region_anyZ (z := 15) (S := fun w' => (w'.cell? ⟨g, 0, none⟩ = some (.pointer (some ⟨gd, 0, none⟩)) ∧ w'.cell? ⟨g, 2, none⟩ = some (.int .i64 fr))) (by kernel_rfl) ?_
      refine anyZ_begin (fun hcl0 => ?_)
      refine anyZ_held (by exact HSB.out _ (bdr (bre wr))) (fun hHeld => ?_)
      -- 0: Op.move (Operand.tmp 0)
      refine' anyZ_pure (i := 0) (v := _) rfl (by rfl) (by kernel_rfl) (by kernel_rfl) (by kernel_rfl) hcl0 (fun _ _ _ h => h) (Or.inl ⟨by rfl, fun w _ => ?hz1⟩) (fun _ => hHeld) (fun hcl1 => ?rz1)
      case hz1 => (simp only [List.getElem_toArray, List.getElem_cons_zero]; first | (go_simp; with_reducible rfl) | (go_simp; done) | rfl)
      simp only [List.getElem_toArray, List.getElem_cons_zero, Act.put, List.setIfInBounds_toArray, List.set_cons_zero, List.set_cons_succ]
      -- 1: Op.nilCheck (Operand.tmp 20)
      refine' anyZ_pure (i := 1) (v := _) rfl (by rfl) (by kernel_rfl) (by kernel_rfl) (by kernel_rfl) hcl1 (fun _ _ _ h => h) (Or.inl ⟨by rfl, fun w _ => ?hz2⟩) (fun _ => hHeld) (fun hcl2 => ?rz2)
      case hz2 => (simp only [List.getElem_toArray, List.getElem_cons_succ, List.getElem_cons_zero]; first | (go_simp; with_reducible rfl) | (go_simp; done) | rfl)
      simp only [List.getElem_toArray, List.getElem_cons_succ, List.getElem_cons_zero, Act.put, List.setIfInBounds_toArray, List.set_cons_zero, List.set_cons_succ]
      -- 2: Op.fieldAddr 99 (Operand.tmp 21) 0
      refine' anyZ_pure (i := 2) (v := _) rfl (by rfl) (by kernel_rfl) (by kernel_rfl) (by kernel_rfl) hcl2 (fun _ _ _ h => h) (Or.inl ⟨by rfl, fun w _ => ?hz3⟩) (fun _ => hHeld) (fun hcl3 => ?rz3)
      case hz3 => (simp only [List.getElem_toArray, List.getElem_cons_succ, List.getElem_cons_zero]; first | (go_simp; with_reducible rfl) | (go_simp; done) | rfl)
      simp only [List.getElem_toArray, List.getElem_cons_succ, List.getElem_cons_zero, Act.put, List.setIfInBounds_toArray, List.set_cons_zero, List.set_cons_succ]
      -- 3: Op.load 37 (Operand.tmp 22)
      refine' anyZ_take (i := 3) (v := _) rfl (by rfl) (by kernel_rfl) (by kernel_rfl) (by kernel_rfl) hcl3 8 (by kernel_rfl) (by kernel_rfl) (fun _ _ _ h => h) (Or.inl ⟨by rfl, fun w hSw => ?hz4⟩) hHeld (fun hcl4 => ?rz4)
      case hz4 => (simp only [List.getElem_toArray, List.getElem_cons_succ, List.getElem_cons_zero]; obtain ⟨hS1, hS2⟩ := hSw; first | (go_simp; with_reducible rfl) | (go_simp; done) | rfl)
      simp only [List.getElem_toArray, List.getElem_cons_succ, List.getElem_cons_zero, Act.put, List.setIfInBounds_toArray, List.set_cons_zero, List.set_cons_succ]
      -- 4: Op.move (Operand.tmp 0)
      refine' anyZ_pure (i := 4) (v := _) rfl (by rfl) (by kernel_rfl) (by kernel_rfl) (by kernel_rfl) hcl4 (fun _ _ _ h => h) (Or.inl ⟨by rfl, fun w _ => ?hz5⟩) (fun _ => hHeld) (fun hcl5 => ?rz5)
      case hz5 => (simp only [List.getElem_toArray, List.getElem_cons_succ, List.getElem_cons_zero]; first | (go_simp; with_reducible rfl) | (go_simp; done) | rfl)
      simp only [List.getElem_toArray, List.getElem_cons_succ, List.getElem_cons_zero, Act.put, List.setIfInBounds_toArray, List.set_cons_zero, List.set_cons_succ]
      -- 5: Op.nilCheck (Operand.tmp 24)
      refine' anyZ_pure (i := 5) (v := _) rfl (by rfl) (by kernel_rfl) (by kernel_rfl) (by kernel_rfl) hcl5 (fun _ _ _ h => h) (Or.inl ⟨by rfl, fun w _ => ?hz6⟩) (fun _ => hHeld) (fun hcl6 => ?rz6)
      case hz6 => (simp only [List.getElem_toArray, List.getElem_cons_succ, List.getElem_cons_zero]; first | (go_simp; with_reducible rfl) | (go_simp; done) | rfl)
      simp only [List.getElem_toArray, List.getElem_cons_succ, List.getElem_cons_zero, Act.put, List.setIfInBounds_toArray, List.set_cons_zero, List.set_cons_succ]
      -- 6: Op.fieldAddr 99 (Operand.tmp 25) 2
      refine' anyZ_pure (i := 6) (v := _) rfl (by rfl) (by kernel_rfl) (by kernel_rfl) (by kernel_rfl) hcl6 (fun _ _ _ h => h) (Or.inl ⟨by rfl, fun w _ => ?hz7⟩) (fun _ => hHeld) (fun hcl7 => ?rz7)
      case hz7 => (simp only [List.getElem_toArray, List.getElem_cons_succ, List.getElem_cons_zero]; first | (go_simp; with_reducible rfl) | (go_simp; done) | rfl)
      simp only [List.getElem_toArray, List.getElem_cons_succ, List.getElem_cons_zero, Act.put, List.setIfInBounds_toArray, List.set_cons_zero, List.set_cons_succ]
      -- 7: Op.load 3 (Operand.tmp 26)
      refine' anyZ_take (i := 7) (v := _) rfl (by rfl) (by kernel_rfl) (by kernel_rfl) (by kernel_rfl) hcl7 8 (by kernel_rfl) (by kernel_rfl) (fun _ _ _ h => h) (Or.inl ⟨by rfl, fun w hSw => ?hz8⟩) hHeld (fun hcl8 => ?rz8)
      case hz8 => (simp only [List.getElem_toArray, List.getElem_cons_succ, List.getElem_cons_zero]; obtain ⟨hS1, hS2⟩ := hSw; first | (go_simp; with_reducible rfl) | (go_simp; done) | rfl)
      simp only [List.getElem_toArray, List.getElem_cons_succ, List.getElem_cons_zero, Act.put, List.setIfInBounds_toArray, List.set_cons_zero, List.set_cons_succ]
      -- 8: Op.move (Operand.tmp 3)
      refine' anyZ_pure (i := 8) (v := _) rfl (by rfl) (by kernel_rfl) (by kernel_rfl) (by kernel_rfl) hcl8 (fun _ _ _ h => h) (Or.inl ⟨by rfl, fun w _ => ?hz9⟩) (fun _ => hHeld) (fun hcl9 => ?rz9)
      case hz9 => (simp only [List.getElem_toArray, List.getElem_cons_succ, List.getElem_cons_zero]; first | (go_simp; with_reducible rfl) | (go_simp; done) | rfl)
      simp only [List.getElem_toArray, List.getElem_cons_succ, List.getElem_cons_zero, Act.put, List.setIfInBounds_toArray, List.set_cons_zero, List.set_cons_succ]
      -- 9: Op.binOp BinOp.add 3 (Operand.tmp 27) (Operand.tmp 28) 3
      refine' anyZ_pure (i := 9) (v := _) rfl (by rfl) (by kernel_rfl) (by kernel_rfl) (by kernel_rfl) hcl9 (fun _ _ _ h => h) (Or.inl ⟨by rfl, fun w _ => ?hz10⟩) (fun _ => hHeld) (fun hcl10 => ?rz10)
      case hz10 => (simp only [List.getElem_toArray, List.getElem_cons_succ, List.getElem_cons_zero]; first | (go_simp; with_reducible rfl) | (go_simp; done) | rfl)
      simp only [List.getElem_toArray, List.getElem_cons_succ, List.getElem_cons_zero, Act.put, List.setIfInBounds_toArray, List.set_cons_zero, List.set_cons_succ]
      -- 10: Op.call { callee := Callee.value (Operand.func 42), args := 
      refine anyZ_one (i := 10) hcl10 (by kernel_rfl) (by simp only [List.getElem?_toArray, List.getElem?_cons_succ, List.getElem?_cons_zero]; rfl) (by rfl) (fun hcl11 K hK => ?_)
      go_simp
      refine (dread_ok gd d F m _ (HD.out.below (btr HB.out (bdr (bre wr)))) (by have := HN.out; have := HM.out; omega) HW.out).mono ?_
      rintro e w3 ⟨v3, rfl, ho3, hb3⟩
      rw [HM.out, ← HBE.out] at ho3
      have HO3 := Lib.hid ho3.bytes
      have HB3 := Lib.hid (btr (bdr (bre wr)) hb3)
      clear ho3 hb3
      refine hK _ _ (fun _ => ?_) ?_
      · exact HSB.out _ HB3.out
      clear hK K hHeld
      have hHeld := (HSB.out _ HB3.out)
      try simp only [Act.put, List.setIfInBounds_toArray, List.set_cons_zero, List.set_cons_succ]
      -- 11: Op.move (Operand.tmp 30)
      refine' anyZ_pure (i := 11) (v := _) rfl (by rfl) (by kernel_rfl) (by kernel_rfl) (by kernel_rfl) hcl11 (fun _ _ _ h => h) (Or.inl ⟨by rfl, fun w _ => ?hz12⟩) (fun _ => hHeld) (fun hcl12 => ?rz12)
      case hz12 => (simp only [List.getElem_toArray, List.getElem_cons_succ, List.getElem_cons_zero]; first | (go_simp; with_reducible rfl) | (go_simp; done) | rfl)
      simp only [List.getElem_toArray, List.getElem_cons_succ, List.getElem_cons_zero, Act.put, List.setIfInBounds_toArray, List.set_cons_zero, List.set_cons_succ]
      -- 12: Op.extract (Operand.tmp 19) 0
      refine' anyZ_pure (i := 12) (v := _) rfl (by rfl) (by kernel_rfl) (by kernel_rfl) (by kernel_rfl) hcl12 (fun _ _ _ h => h) (Or.inl ⟨by rfl, fun w _ => ?hz13⟩) (fun _ => hHeld) (fun hcl13 => ?rz13)
      case hz13 => (simp only [List.getElem_toArray, List.getElem_cons_succ, List.getElem_cons_zero]; first | (go_simp; with_reducible rfl) | (go_simp; done) | rfl)
      simp only [List.getElem_toArray, List.getElem_cons_succ, List.getElem_cons_zero, Act.put, List.setIfInBounds_toArray, List.set_cons_zero, List.set_cons_succ]
      -- 13: Op.extract (Operand.tmp 19) 1
      refine' anyZ_pure (i := 13) (v := _) rfl (by rfl) (by kernel_rfl) (by kernel_rfl) (by kernel_rfl) hcl13 (fun _ _ _ h => h) (Or.inl ⟨by rfl, fun w _ => ?hz14⟩) (fun _ => hHeld) (fun hcl14 => ?rz14)
      case hz14 => (simp only [List.getElem_toArray, List.getElem_cons_succ, List.getElem_cons_zero]; first | (go_simp; with_reducible rfl) | (go_simp; done) | rfl)
      simp only [List.getElem_toArray, List.getElem_cons_succ, List.getElem_cons_zero, Act.put, List.setIfInBounds_toArray, List.set_cons_zero, List.set_cons_succ]
      -- 14: Op.assign (Operand.tmp 31)
      refine' anyZ_pure (i := 14) (v := _) rfl (by rfl) (by kernel_rfl) (by kernel_rfl) (by kernel_rfl) hcl14 (fun _ _ _ h => h) (Or.inl ⟨by rfl, fun w _ => ?hz15⟩) (fun _ => hHeld) (fun hcl15 => ?rz15)
      case hz15 => (simp only [List.getElem_toArray, List.getElem_cons_succ, List.getElem_cons_zero]; first | (go_simp; with_reducible rfl) | (go_simp; done) | rfl)
      simp only [List.getElem_toArray, List.getElem_cons_succ, List.getElem_cons_zero, Act.put, List.setIfInBounds_toArray, List.set_cons_zero, List.set_cons_succ]
      clear hHeld
      refine anyZ_chain_at (by kernel_rfl) ?_
      simp only [List.drop_succ_cons, List.drop_zero]
      clear hadd hadd2 HSB
      have HR3 := Lib.hid (HRW.out.below HB3.out)
      have HB3' := Lib.hid (btr HB.out HB3.out)
      clear HB3 HRW HB hglw
      go_wp2_with fail
      refine (parse_any _ b w3 HO3.out).mono ?_
      rintro e w4 ⟨v4, rfl, ho4, hb4⟩
      have hpg := parse_good b
      obtain ⟨P, hP⟩ : ∃ P, P = (parseOf b).2 := ⟨_, rfl⟩
      obtain ⟨E, hE⟩ : ∃ E, E = (parseOf b).1 := ⟨_, rfl⟩
      rw [← hP] at ho4 hpg
      have HP := Lib.hid hP
      have HE := Lib.hid hE
      rw [← hP, ← hE]
      unfold PgVal
      have HB4 := Lib.hid (btr HB3'.out hb4)
      have HR4 := Lib.hid (HR3.out.below hb4)
      obtain ⟨a4, c4, rfl, -, -, -, -⟩ := id ho4.bytes
      obtain ⟨L4, hL4⟩ : ∃ L, L = P.data.length := ⟨_, rfl⟩
      rw [← hL4]
      clear hP hE ho4 hb4 HB3' HR3 HO3 hL4
      have hgen := hpg.gen
      have hser := hpg.serial
      go_upto_region 6 with fail
      have hb5 := bal (bre w4) (.cells #[.int .u32 P.gen, .int .u32 P.serial, .int .u32 P.number, .int .u8 P.kind, .slice a4 L4 c4] 122)
      have hq5 := page_new w4 P (.slice a4 L4 c4)
      generalize w4.alloc (.cells #[.int .u32 P.gen, .int .u32 P.serial, .int .u32 P.number, .int .u8 P.kind, .slice a4 L4 c4] 122) = w5 at *
      obtain ⟨n5, hn5⟩ : ∃ n, n = w4.heap.size := ⟨_, rfl⟩
      rw [← hn5] at hq5 ⊢
      have HB5 := Lib.hid (btr HB4.out hb5)
      have y0 := hq5.c0
      have y1 := hq5.c1
      have r1 := (HR4.out.below hb5).c1
      clear hb5 hq5 hn5 HB4 HR4
      obtain ⟨g1, g2, g3⟩ := eqB P.gen gen
      by_cases hE : E = 0
      · have e1 : (E == 0) = true := by rw [hE]; rfl
        have e2 : decide (E = 0) = true := decide_eq_true hE
        by_cases hG : P.gen = gen
        · rw [decide_eq_true hG] at g1 g2 g3
          have HT : Hid (topOf gen serial ((halfOf d fr n).take (k + 1)) = max t0 P.serial) := Lib.hid (by
            rw [HTS.out, topStep, if_pos ⟨by rw [← HE.out]; exact hE, by rw [← HP.out]; exact hG⟩, ← HP.out])
          clear hE hG HTS
          go_quiet (fail)
          go_wp2_with (at_builtin; refine wpList_max rfl _ _ _ rfl .u32 t0 P.serial rfl rfl ?_)
          go_roundw
          case rel => exact ⟨k + 1, by omega, by go_num, by rw [HT.out, show ((max t0 P.serial : Nat) : Int) = max (t0 : Int) (P.serial : Int) by omega], Lib.hid (btr HB5.out (bdn (bre w5) _))⟩
          case measure => simp [intOf]; omega
        · rw [decide_eq_false hG] at g1 g2 g3
          have HT : Hid (topOf gen serial ((halfOf d fr n).take (k + 1)) = t0) := Lib.hid (by
            rw [HTS.out, topStep, if_neg (fun h => hG (by rw [HP.out]; exact h.2))])
          clear hE hG HTS
          go_quiet (fail)
          go_wp2_with fail
          go_roundw
          case rel => exact ⟨k + 1, by omega, by go_num, by rw [HT.out], Lib.hid (btr HB5.out (bdn (bre w5) _))⟩
          case measure => simp [intOf]; omega
      · have e1 : (E == 0) = false := beq_false_of_ne hE
        have e2 : decide (E = 0) = false := decide_eq_false hE
        have HT : Hid (topOf gen serial ((halfOf d fr n).take (k + 1)) = t0) := Lib.hid (by
          rw [HTS.out, topStep, if_neg (fun h => hE (by rw [HE.out]; exact h.1))])
        clear hE HTS g1 g2 g3
        go_quiet (fail)
        go_wp2_with fail
        go_roundw
        case rel => exact ⟨k + 1, by omega, by go_num, by rw [HT.out], Lib.hid (btr HB5.out (bdn (bre w5) _))⟩
        case measure => simp [intOf]; omega
    · have hkn : k = n := by omega
      subst hkn
      rw [half_whole]
      have hrw := HR.out.below hb.out
      have c6 := hrw.c6
      have fz := hrw.fz
      have hwr := wrap32 (topOf gen serial (halfOf d fr k))
      have HH : Hid (RlRow (wr.setCell ⟨g, 6, none⟩ (.int .u32 ((topOf gen serial (halfOf d fr k) + 1) % 4294967296 : Nat))) g gd gen fr k ((topOf gen serial (halfOf d fr k) + 1) % 4294967296) vl vp vs ∧ Only w (wr.setCell ⟨g, 6, none⟩ (.int .u32 ((topOf gen serial (halfOf d fr k) + 1) % 4294967296 : Nat))) (fun q => q = g)) := Lib.hid ⟨hrw.put6 _, (Only.of_below hb.out fun q => q = g).trans (Only.setCell wr ⟨g, 6, none⟩ _) fun _ _ h => h⟩
      have d1 : decide ((k : Int) < k) = false := decide_eq_false (by omega)
      obtain ⟨T, hT⟩ : ∃ T, T = topOf gen serial (halfOf d fr k) := ⟨_, rfl⟩
      rw [← hT] at HH hwr ⊢
      have HTT := Lib.hid hT
      clear hT
      obtain ⟨T2, hT2⟩ : ∃ t, t = (T + 1) % 4294967296 := ⟨_, rfl⟩
      rw [← hT2] at hwr
      have HT2 := Lib.hid hT2
      clear hT2 hrw hlt
      go_wp2_with fail
      rw [HT2.out]
      refine bodyPost_end (results_none rfl _ _ _) rfl ?_
      rw [← HTT.out]
      exact ⟨rfl, HH.out⟩
end Go.Proofs.YtacfkhnajdneeaaDoor
