/- Walk: names are found, and declared. -/
import Derived.Test.YtljdphpbalioaaaGreatDoorGnS
namespace Go.Proofs.YtljdphpbalioaaaGreatDoor
open Go.RowKit

theorem zeroPtr (w : World) : (zeroValue 47).run Tryz.prog w = .ok (.pointer none) w := by kernel_rfl
theorem zeroBool (w : World) : (zeroValue 4).run Tryz.prog w = .ok (.bool false) w := by kernel_rfl
theorem Sc.get {w : World} {L : List (LT Nat)} {c : Nat} {ms : List Nat} {sc : List (Bs → Option Nat)} (h : Sc w L c ms sc) : ∀ (i : Nat) (s : Bs → Option Nat), sc[i]? = some s → ∃ b, ms[i]? = some b ∧ MapS w b c s ∧ ∀ x k, s x = some k → Lb L k := by
  induction h with
  | nil => intro i s hi; cases i <;> cases hi
  | @cons b ms s0 sc h1 h2 _ ih =>
    intro i s hi
    cases i with
    | zero => cases hi; exact ⟨b, rfl, h1, h2⟩
    | succ i => exact ih i s hi
theorem mapsRow_get (ms : List Nat) (i : Nat) (b : Nat) (hi : i < ms.length) (hb : ms[ms.length - 1 - i]? = some b) : (mapsRow ms)[i]? = some (.map (some b)) := by
  unfold mapsRow
  rw [List.getElem?_reverse (by rw [List.length_map]; exact hi), List.length_map, List.getElem?_map, hb]
  rfl
section
variable {J : World → Prop} {gm N0 : Nat} {L : List (LT Nat)} {I : Nat → Nat} {ga : Value} {n : Nat} {mf mm : Value} {w w' : World} {st : Nm.St Nat} {c mu : Nat} {ms : List Nat} {cv sv : Value}
/-- the scopes' slice: its cells -/
theorem VisM.scopeRow (h : VisM J gm N0 L I ga n mf mm w st c mu ms cv sv) : ∃ q cap, sv = .slice (some ⟨q, 0, none⟩) ms.length cap ∧ (∀ (i b : Nat), i < ms.length → ms[ms.length - 1 - i]? = some b → w.cell? ⟨q, i, none⟩ = some (.map (some b))) := by
  have hl := h.maps.len
  have hp := h.pos
  rcases h.row.2 with ⟨hn, hz⟩ | ⟨b, cap, cur, hv, -⟩
  · omega
  · refine ⟨b, cap, hv, fun i k hi hk => ?_⟩
    have h5 := h.row.cells (g := b) (by rw [hv]; rfl) i _ (mapsRow_get ms i k hi hk)
    rw [Addr.add_mid, Nat.zero_add] at h5
    exact h5
end

set_option linter.unusedSimpArgs false in
set_option maxRecDepth 20000 in
set_option maxHeartbeats 1600000 in
theorem find_any (J : World → Prop) (gm N0 : Nat) (L : List (LT Nat)) (I : Nat → Nat) (ga : Value) (n : Nat) (mf mm : Value) (w : World) (st : Nm.St Nat) (c mu : Nat) (ms : List Nat) (cv sv : Value) (x : Bs) (hx : x.length ≤ 1000000) (hc : c ≤ 1000000) (h : VisM J gm N0 L I ga n mf mm w st c mu ms cv sv) :
    Calls Tryz.prog 73 #[.pointer (some ⟨gm, 0, none⟩), .string (mk8 x)] w fun e w' => w' = w ∧ ((∃ k, Nm.findS x st.scope = some k ∧ e = .returned (.tuple #[.int .u64 (I k : Nat), .int .i64 0])) ∨ (Nm.findS x st.scope = none ∧ e = .returned (.tuple #[.int .u64 0, .int .i64 9]))) := by
  obtain ⟨q, cap, rfl, hcell⟩ := h.scopeRow
  have m6 := cell_of_row w gm 6 _ _ _ h.box
  obtain ⟨M, hM⟩ : ∃ M, M = ms.length := ⟨_, rfl⟩
  have hMs : M = st.scope.length := by rw [hM, h.maps.len]
  replace m6 : w.cell? ⟨gm, 6, none⟩ = some (.slice (some ⟨q, 0, none⟩) M cap) := by rw [hM]; exact m6
  have hMc : M ≤ 1000000 := by rw [hM]; exact Nat.le_trans h.few.2 hc
  have hp := h.pos
  have H := Lib.hid h
  have HCELL : Hid (∀ (i b : Nat), i < M → ms[M - 1 - i]? = some b → w.cell? ⟨q, i, none⟩ = some (.map (some b))) := Lib.hid (by rw [hM]; exact hcell)
  have HMS := Lib.hid hMs
  obtain ⟨R, hR⟩ : ∃ R, R = Nm.findS x st.scope := ⟨_, rfl⟩
  rw [← hR]
  have HR := Lib.hid hR
  have hw0 : wrap64 ((M : Int) - 1) = (M : Int) - 1 := by unfold wrap64; omega
  have hw1 : IntKind.i64.wrap ((M : Int) - 1) = (M : Int) - 1 := by rw [IntKind.wrap_i64]; omega
  clear h hcell hM hMs hp hR
  go_enter Tryz.func73, Tryz.ntmps73
  go_wp2_with fail
  go_loopw [6, 7, 8] (fun i _ _ wr => ∃ (j : Nat), j ≤ M ∧ i = .int .i64 ((j : Int) - 1) ∧ wr = w ∧ Hid (Nm.findS x (st.scope.drop (M - j)) = R)) (fun i _ _ _ => (intOf i + 1).toNat)
  case atStart => exact ⟨M, by omega, by first | rfl | (congr 1), rfl, Lib.hid (by rw [Nat.sub_self, List.drop_zero, HR.out])⟩
  case round =>
    obtain ⟨j, hj, rfl, hwr, hfd⟩ := hrel
    subst hwr
    by_cases hlt : 0 < j
    · obtain ⟨i, rfl⟩ : ∃ i, j = i + 1 := ⟨j - 1, by omega⟩
      have e0 : ((i + 1 : Nat) : Int) - 1 = (i : Int) := by omega
      rw [e0]
      have d1 : decide ((0 : Int) ≤ (i : Int)) = true := decide_eq_true (by omega)
      have d2 : decide ((i : Int) ≥ 0) = true := decide_eq_true (by omega)
      have k1 : (0 : Int) ≤ (i : Int) := by omega
      have k2 : (i : Int) < (M : Int) := by omega
      have hil : M - (i + 1) < st.scope.length := by rw [← HMS.out]; omega
      obtain ⟨s, hs⟩ : ∃ s, st.scope[M - (i + 1)]? = some s := ⟨_, List.getElem?_eq_getElem hil⟩
      obtain ⟨b, hb, ⟨f, hf, hfs⟩, hlab⟩ := H.out.maps.get _ s hs
      have hcl := HCELL.out i b (by omega) (by rw [show M - 1 - i = M - (i + 1) by omega]; exact hb)
      have hrun := hf.look keyedS undMT (zeroPtr wr) x (keyS x hx)
      have hdr : st.scope.drop (M - (i + 1)) = s :: st.scope.drop (M - i) := by
        rw [List.drop_eq_getElem_cons hil]
        rw [List.getElem?_eq_getElem hil] at hs
        rw [Option.some.inj hs, show M - (i + 1) + 1 = M - i by omega]
      rw [hfs x] at hrun
      unfold encS at hrun
      cases hsx : s x with
      | some k =>
        rw [hsx] at hrun
        replace hrun : (Instr.lookup 99 (.map (some b)) (.string (mk8 x)) true).run Tryz.prog wr = .ok (.tuple #[.pointer (some ⟨k, 0, none⟩), .bool true]) wr := hrun
        obtain ⟨a, ha, rfl⟩ := hlab x k hsx
        obtain ⟨kv, hrow⟩ := H.out.mem.row ha
        have k9 := cell_of_row wr a.lab 9 _ _ _ hrow
        replace k9 : wr.cell? ⟨a.lab, 9, none⟩ = some (.int .u64 (I a.lab : Nat)) := k9
        have HRE : Hid (R = some a.lab) := Lib.hid (by
          have h1 := hfd.out
          rw [hdr] at h1
          unfold Nm.findS at h1
          rw [hsx] at h1
          exact h1.symm)
        clear hsx hdr hs hb hf hfs hlab hrow ha hfd HR hil e0
        go_wp2_with fail
        refine bodyPost_ret (v := .tuple #[.int .u64 (I a.lab : Nat), .int .i64 0]) (by simp [results, Tryz.results73, go_sem]) rfl ?_
        exact ⟨rfl, .inl ⟨_, HRE.out, rfl⟩⟩
      | none =>
        rw [hsx] at hrun
        replace hrun : (Instr.lookup 99 (.map (some b)) (.string (mk8 x)) true).run Tryz.prog wr = .ok (.tuple #[.pointer none, .bool false]) wr := hrun
        have HFD : Hid (Nm.findS x (st.scope.drop (M - i)) = R) := Lib.hid (by
          have h1 := hfd.out
          rw [hdr] at h1
          unfold Nm.findS at h1
          rw [hsx] at h1
          exact h1)
        have hw2 : wrap64 ((i : Int) - 1) = (i : Int) - 1 := by unfold wrap64; omega
        have hw3 : IntKind.i64.wrap ((i : Int) - 1) = (i : Int) - 1 := by rw [IntKind.wrap_i64]; omega
        clear hsx hdr hs hb hf hfs hlab hfd HR hil e0
        go_wp2_with fail
        go_roundw
        case rel => exact ⟨i, by omega, rfl, trivial, HFD⟩
        case measure => (simp [intOf]; try omega)
    · have e0 : ((j : Nat) : Int) - 1 = -1 := by omega
      rw [e0]
      have HRE : Hid (R = none) := Lib.hid (by rw [← hfd.out, List.drop_eq_nil_of_le (by rw [← HMS.out]; omega)]; rfl)
      clear hfd HR e0
      go_wp2_with fail
      refine bodyPost_ret (v := .tuple #[.int .u64 0, .int .i64 9]) (by simp [results, Tryz.results73, go_sem]) rfl ?_
      exact ⟨rfl, .inr ⟨HRE.out, rfl⟩⟩

set_option linter.unusedSimpArgs false in
set_option maxRecDepth 20000 in
set_option maxHeartbeats 1600000 in
theorem declare_any (J : World → Prop) (gm N0 : Nat) (L : List (LT Nat)) (I : Nat → Nat) (ga : Value) (n : Nat) (mf mm : Value) (w : World) (st : Nm.St Nat) (c mu : Nat) (ms : List Nat) (cv sv : Value) (a : LT Nat) (ha : a ∈ L) (hc : c + 2 ≤ 1000000) (h : VisM J gm N0 L I ga n mf mm w st c mu ms cv sv) :
    Calls Tryz.prog 51 #[.pointer (some ⟨gm, 0, none⟩), .pointer (some ⟨a.lab, 0, none⟩)] w fun e w' => e = .returned (.int .i64 ((Nm.declare a.name a.lab st).1 : Nat)) ∧ VisM J gm N0 L I ga n mf mm w' (Nm.declare a.name a.lab st).2 (c + 2) mu ms cv sv := by
  have hn1 := h.below (bdr (bre w))
  have hsx := (h.short a ha).1
  obtain ⟨R, hR⟩ : ∃ R, R = Nm.declare a.name a.lab st := ⟨_, rfl⟩
  rw [← hR]
  have HR := Lib.hid hR
  obtain ⟨kv, hrow⟩ := hn1.mem.row ha
  have a1 := cell_of_row _ a.lab 1 _ _ _ hrow
  replace a1 : w.drew.cell? ⟨a.lab, 1, none⟩ = some (.string (mk8 a.name)) := a1
  have m5 := cell_of_row _ gm 5 _ _ _ hn1.box
  replace m5 : w.drew.cell? ⟨gm, 5, none⟩ = some (.map (some mu)) := m5
  obtain ⟨f, hf, hfu⟩ := hn1.used
  have hrun := hf.look1 keyedS undMB (zeroBool w.drew) a.name (keyS a.name hsx)
  rw [hfu a.name] at hrun
  unfold encS at hrun
  have HSB : w.drew.cell? ⟨gm, 5, none⟩ = some (.map (some mu)) ∧ w.drew.cell? ⟨a.lab, 1, none⟩ = some (.string (mk8 a.name)) := ⟨m5, a1⟩
  have HN1 := Lib.hid hn1
  obtain ⟨bu, hbu⟩ : ∃ b, b = st.used a.name := ⟨_, rfl⟩
  rw [← hbu] at hrun
  have HBU := Lib.hid hbu
  clear h hn1 hR hrow a1 m5 hf hfu hbu
  go_enter Tryz.func51, Tryz.ntmps51
  go_upto_region 1 with fail
  refine region_anyZ (z := 9) (S := fun w' => w'.cell? ⟨gm, 5, none⟩ = some (.map (some mu)) ∧ w'.cell? ⟨a.lab, 1, none⟩ = some (.string (mk8 a.name))) (by kernel_rfl) ?_
  refine anyZ_begin (fun hcl0 => ?_)
  refine anyZ_held (by exact HSB) (fun hHeld => ?_)
  -- 0: Op.move (Operand.tmp 0)
  refine' anyZ_pure (i := 0) (v := _) rfl (by rfl) (by kernel_rfl) (by kernel_rfl) (by kernel_rfl) hcl0 (fun _ _ _ h => h) (Or.inl ⟨by rfl, fun w _ => ?hz1⟩) (fun _ => hHeld) (fun hcl1 => ?rz1)
  case hz1 => (simp only [List.getElem_toArray, List.getElem_cons_zero]; first | (go_simp; with_reducible rfl) | (go_simp; done) | rfl)
  simp only [List.getElem_toArray, List.getElem_cons_zero, Act.put, List.setIfInBounds_toArray, List.set_cons_zero, List.set_cons_succ]
  -- 1: Op.nilCheck (Operand.tmp 5)
  refine' anyZ_pure (i := 1) (v := _) rfl (by rfl) (by kernel_rfl) (by kernel_rfl) (by kernel_rfl) hcl1 (fun _ _ _ h => h) (Or.inl ⟨by rfl, fun w _ => ?hz2⟩) (fun _ => hHeld) (fun hcl2 => ?rz2)
  case hz2 => (simp only [List.getElem_toArray, List.getElem_cons_succ, List.getElem_cons_zero]; first | (go_simp; with_reducible rfl) | (go_simp; done) | rfl)
  simp only [List.getElem_toArray, List.getElem_cons_succ, List.getElem_cons_zero, Act.put, List.setIfInBounds_toArray, List.set_cons_zero, List.set_cons_succ]
  -- 2: Op.fieldAddr 57 (Operand.tmp 6) 5
  refine' anyZ_pure (i := 2) (v := _) rfl (by rfl) (by kernel_rfl) (by kernel_rfl) (by kernel_rfl) hcl2 (fun _ _ _ h => h) (Or.inl ⟨by rfl, fun w _ => ?hz3⟩) (fun _ => hHeld) (fun hcl3 => ?rz3)
  case hz3 => (simp only [List.getElem_toArray, List.getElem_cons_succ, List.getElem_cons_zero]; first | (go_simp; with_reducible rfl) | (go_simp; done) | rfl)
  simp only [List.getElem_toArray, List.getElem_cons_succ, List.getElem_cons_zero, Act.put, List.setIfInBounds_toArray, List.set_cons_zero, List.set_cons_succ]
  -- 3: Op.load 53 (Operand.tmp 7)
  refine' anyZ_take (i := 3) (v := _) rfl (by rfl) (by kernel_rfl) (by kernel_rfl) (by kernel_rfl) hcl3 19 (by kernel_rfl) (by kernel_rfl) (fun _ _ _ h => h) (Or.inl ⟨by rfl, fun w hSw => ?hz4⟩) hHeld (fun hcl4 => ?rz4)
  case hz4 => (simp only [List.getElem_toArray, List.getElem_cons_succ, List.getElem_cons_zero]; obtain ⟨hS1, hS2⟩ := hSw; first | (go_simp; with_reducible rfl) | (go_simp; done) | rfl)
  simp only [List.getElem_toArray, List.getElem_cons_succ, List.getElem_cons_zero, Act.put, List.setIfInBounds_toArray, List.set_cons_zero, List.set_cons_succ]
  -- 4: Op.move (Operand.tmp 1)
  refine' anyZ_pure (i := 4) (v := _) rfl (by rfl) (by kernel_rfl) (by kernel_rfl) (by kernel_rfl) hcl4 (fun _ _ _ h => h) (Or.inl ⟨by rfl, fun w _ => ?hz5⟩) (fun _ => hHeld) (fun hcl5 => ?rz5)
  case hz5 => (simp only [List.getElem_toArray, List.getElem_cons_succ, List.getElem_cons_zero]; first | (go_simp; with_reducible rfl) | (go_simp; done) | rfl)
  simp only [List.getElem_toArray, List.getElem_cons_succ, List.getElem_cons_zero, Act.put, List.setIfInBounds_toArray, List.set_cons_zero, List.set_cons_succ]
  -- 5: Op.nilCheck (Operand.tmp 9)
  refine' anyZ_pure (i := 5) (v := _) rfl (by rfl) (by kernel_rfl) (by kernel_rfl) (by kernel_rfl) hcl5 (fun _ _ _ h => h) (Or.inl ⟨by rfl, fun w _ => ?hz6⟩) (fun _ => hHeld) (fun hcl6 => ?rz6)
  case hz6 => (simp only [List.getElem_toArray, List.getElem_cons_succ, List.getElem_cons_zero]; first | (go_simp; with_reducible rfl) | (go_simp; done) | rfl)
  simp only [List.getElem_toArray, List.getElem_cons_succ, List.getElem_cons_zero, Act.put, List.setIfInBounds_toArray, List.set_cons_zero, List.set_cons_succ]
  -- 6: Op.fieldAddr 74 (Operand.tmp 10) 0
  refine' anyZ_pure (i := 6) (v := _) rfl (by rfl) (by kernel_rfl) (by kernel_rfl) (by kernel_rfl) hcl6 (fun _ _ _ h => h) (Or.inl ⟨by rfl, fun w _ => ?hz7⟩) (fun _ => hHeld) (fun hcl7 => ?rz7)
  case hz7 => (simp only [List.getElem_toArray, List.getElem_cons_succ, List.getElem_cons_zero]; first | (go_simp; with_reducible rfl) | (go_simp; done) | rfl)
  simp only [List.getElem_toArray, List.getElem_cons_succ, List.getElem_cons_zero, Act.put, List.setIfInBounds_toArray, List.set_cons_zero, List.set_cons_succ]
  -- 7: Op.fieldAddr 38 (Operand.tmp 11) 1
  refine' anyZ_pure (i := 7) (v := _) rfl (by rfl) (by kernel_rfl) (by kernel_rfl) (by kernel_rfl) hcl7 (fun _ _ _ h => h) (Or.inl ⟨by rfl, fun w _ => ?hz8⟩) (fun _ => hHeld) (fun hcl8 => ?rz8)
  case hz8 => (simp only [List.getElem_toArray, List.getElem_cons_succ, List.getElem_cons_zero]; first | (go_simp; with_reducible rfl) | (go_simp; done) | rfl)
  simp only [List.getElem_toArray, List.getElem_cons_succ, List.getElem_cons_zero, Act.put, List.setIfInBounds_toArray, List.set_cons_zero, List.set_cons_succ]
  -- 8: Op.load 9 (Operand.tmp 12)
  refine' anyZ_take (i := 8) (v := _) rfl (by rfl) (by kernel_rfl) (by kernel_rfl) (by kernel_rfl) hcl8 19 (by kernel_rfl) (by kernel_rfl) (fun _ _ _ h => h) (Or.inl ⟨by rfl, fun w hSw => ?hz9⟩) hHeld (fun hcl9 => ?rz9)
  case hz9 => (simp only [List.getElem_toArray, List.getElem_cons_succ, List.getElem_cons_zero]; obtain ⟨hS1, hS2⟩ := hSw; first | (go_simp; with_reducible rfl) | (go_simp; done) | rfl)
  simp only [List.getElem_toArray, List.getElem_cons_succ, List.getElem_cons_zero, Act.put, List.setIfInBounds_toArray, List.set_cons_zero, List.set_cons_succ]
  clear hHeld
  refine anyZ_chain_at (by kernel_rfl) ?_
  simp only [List.drop_succ_cons, List.drop_zero]
  generalize w.drew = w1 at *
  cases bu with
  | true =>
    have HRE : Hid (R = (10, st)) := Lib.hid (by rw [HR.out]; unfold Nm.declare; rw [if_pos HBU.out.symm])
    replace hrun : (Instr.lookup 52 (.map (some mu)) (.string (mk8 a.name)) false).run Tryz.prog w1 = .ok (.bool true) w1 := hrun
    clear HSB HR
    go_wp2_with fail
    refine bodyPost_ret (v := .int .i64 10) (by simp [results, Tryz.results51, go_sem]) rfl ?_
    exact ⟨by rw [HRE.out]; rfl, by rw [HRE.out]; exact HN1.out.mono (by omega)⟩
  | false =>
    replace hrun : (Instr.lookup 52 (.map (some mu)) (.string (mk8 a.name)) false).run Tryz.prog w1 = .ok (.bool false) w1 := hrun
    obtain ⟨used, scope, calls, ref⟩ := st
    have HN2 := Lib.hid (HN1.out.below (bdr (bre w1)))
    obtain ⟨kv, hrow⟩ := HN2.out.mem.row ha
    have a1 := cell_of_row _ a.lab 1 _ _ _ hrow
    replace a1 : w1.drew.cell? ⟨a.lab, 1, none⟩ = some (.string (mk8 a.name)) := a1
    have m5 := cell_of_row _ gm 5 _ _ _ HN2.out.box
    replace m5 : w1.drew.cell? ⟨gm, 5, none⟩ = some (.map (some mu)) := m5
    have HSB2 : w1.drew.cell? ⟨gm, 5, none⟩ = some (.map (some mu)) ∧ w1.drew.cell? ⟨a.lab, 1, none⟩ = some (.string (mk8 a.name)) := ⟨m5, a1⟩
    obtain ⟨f, ⟨N, D, hN, hfo, hfd⟩, hfu⟩ := HN2.out.used
    have hf : MapV Tryz.prog 9 encS w1.drew mu c f := ⟨N, D, hN, hfo, hfd⟩
    obtain ⟨w3, hrun3, hf3, ho3, -⟩ := hf.store keyedS undMB encS_inj a.name (.bool true) (keyS a.name hsx) (by unfold maxLen; omega)
    unfold encS at hrun3
    have hn3 := HN2.out.use a.name hf3 (Nat.le_refl _) hfu ho3
    clear hrow a1 m5 hf hfo hfd hfu hf3 ho3 HSB
    go_upto_region 3 with fail
    refine region_anyZ (z := 9) (S := fun w' => w'.cell? ⟨gm, 5, none⟩ = some (.map (some mu)) ∧ w'.cell? ⟨a.lab, 1, none⟩ = some (.string (mk8 a.name))) (by kernel_rfl) ?_
    refine anyZ_begin (fun hcl0 => ?_)
    refine anyZ_held (by exact HSB2) (fun hHeld => ?_)
    -- 0: Op.move (Operand.tmp 0)
    refine' anyZ_pure (i := 0) (v := _) rfl (by rfl) (by kernel_rfl) (by kernel_rfl) (by kernel_rfl) hcl0 (fun _ _ _ h => h) (Or.inl ⟨by rfl, fun w _ => ?hy1⟩) (fun _ => hHeld) (fun hcl1 => ?ry1)
    case hy1 => (simp only [List.getElem_toArray, List.getElem_cons_zero]; first | (go_simp; with_reducible rfl) | (go_simp; done) | rfl)
    simp only [List.getElem_toArray, List.getElem_cons_zero, Act.put, List.setIfInBounds_toArray, List.set_cons_zero, List.set_cons_succ]
    -- 1: Op.nilCheck (Operand.tmp 15)
    refine' anyZ_pure (i := 1) (v := _) rfl (by rfl) (by kernel_rfl) (by kernel_rfl) (by kernel_rfl) hcl1 (fun _ _ _ h => h) (Or.inl ⟨by rfl, fun w _ => ?hy2⟩) (fun _ => hHeld) (fun hcl2 => ?ry2)
    case hy2 => (simp only [List.getElem_toArray, List.getElem_cons_succ, List.getElem_cons_zero]; first | (go_simp; with_reducible rfl) | (go_simp; done) | rfl)
    simp only [List.getElem_toArray, List.getElem_cons_succ, List.getElem_cons_zero, Act.put, List.setIfInBounds_toArray, List.set_cons_zero, List.set_cons_succ]
    -- 2: Op.fieldAddr 57 (Operand.tmp 16) 5
    refine' anyZ_pure (i := 2) (v := _) rfl (by rfl) (by kernel_rfl) (by kernel_rfl) (by kernel_rfl) hcl2 (fun _ _ _ h => h) (Or.inl ⟨by rfl, fun w _ => ?hy3⟩) (fun _ => hHeld) (fun hcl3 => ?ry3)
    case hy3 => (simp only [List.getElem_toArray, List.getElem_cons_succ, List.getElem_cons_zero]; first | (go_simp; with_reducible rfl) | (go_simp; done) | rfl)
    simp only [List.getElem_toArray, List.getElem_cons_succ, List.getElem_cons_zero, Act.put, List.setIfInBounds_toArray, List.set_cons_zero, List.set_cons_succ]
    -- 3: Op.load 53 (Operand.tmp 17)
    refine' anyZ_take (i := 3) (v := _) rfl (by rfl) (by kernel_rfl) (by kernel_rfl) (by kernel_rfl) hcl3 19 (by kernel_rfl) (by kernel_rfl) (fun _ _ _ h => h) (Or.inl ⟨by rfl, fun w hSw => ?hy4⟩) hHeld (fun hcl4 => ?ry4)
    case hy4 => (simp only [List.getElem_toArray, List.getElem_cons_succ, List.getElem_cons_zero]; obtain ⟨hS1, hS2⟩ := hSw; first | (go_simp; with_reducible rfl) | (go_simp; done) | rfl)
    simp only [List.getElem_toArray, List.getElem_cons_succ, List.getElem_cons_zero, Act.put, List.setIfInBounds_toArray, List.set_cons_zero, List.set_cons_succ]
    -- 4: Op.move (Operand.tmp 1)
    refine' anyZ_pure (i := 4) (v := _) rfl (by rfl) (by kernel_rfl) (by kernel_rfl) (by kernel_rfl) hcl4 (fun _ _ _ h => h) (Or.inl ⟨by rfl, fun w _ => ?hy5⟩) (fun _ => hHeld) (fun hcl5 => ?ry5)
    case hy5 => (simp only [List.getElem_toArray, List.getElem_cons_succ, List.getElem_cons_zero]; first | (go_simp; with_reducible rfl) | (go_simp; done) | rfl)
    simp only [List.getElem_toArray, List.getElem_cons_succ, List.getElem_cons_zero, Act.put, List.setIfInBounds_toArray, List.set_cons_zero, List.set_cons_succ]
    -- 5: Op.nilCheck (Operand.tmp 19)
    refine' anyZ_pure (i := 5) (v := _) rfl (by rfl) (by kernel_rfl) (by kernel_rfl) (by kernel_rfl) hcl5 (fun _ _ _ h => h) (Or.inl ⟨by rfl, fun w _ => ?hy6⟩) (fun _ => hHeld) (fun hcl6 => ?ry6)
    case hy6 => (simp only [List.getElem_toArray, List.getElem_cons_succ, List.getElem_cons_zero]; first | (go_simp; with_reducible rfl) | (go_simp; done) | rfl)
    simp only [List.getElem_toArray, List.getElem_cons_succ, List.getElem_cons_zero, Act.put, List.setIfInBounds_toArray, List.set_cons_zero, List.set_cons_succ]
    -- 6: Op.fieldAddr 74 (Operand.tmp 20) 0
    refine' anyZ_pure (i := 6) (v := _) rfl (by rfl) (by kernel_rfl) (by kernel_rfl) (by kernel_rfl) hcl6 (fun _ _ _ h => h) (Or.inl ⟨by rfl, fun w _ => ?hy7⟩) (fun _ => hHeld) (fun hcl7 => ?ry7)
    case hy7 => (simp only [List.getElem_toArray, List.getElem_cons_succ, List.getElem_cons_zero]; first | (go_simp; with_reducible rfl) | (go_simp; done) | rfl)
    simp only [List.getElem_toArray, List.getElem_cons_succ, List.getElem_cons_zero, Act.put, List.setIfInBounds_toArray, List.set_cons_zero, List.set_cons_succ]
    -- 7: Op.fieldAddr 38 (Operand.tmp 21) 1
    refine' anyZ_pure (i := 7) (v := _) rfl (by rfl) (by kernel_rfl) (by kernel_rfl) (by kernel_rfl) hcl7 (fun _ _ _ h => h) (Or.inl ⟨by rfl, fun w _ => ?hy8⟩) (fun _ => hHeld) (fun hcl8 => ?ry8)
    case hy8 => (simp only [List.getElem_toArray, List.getElem_cons_succ, List.getElem_cons_zero]; first | (go_simp; with_reducible rfl) | (go_simp; done) | rfl)
    simp only [List.getElem_toArray, List.getElem_cons_succ, List.getElem_cons_zero, Act.put, List.setIfInBounds_toArray, List.set_cons_zero, List.set_cons_succ]
    -- 8: Op.load 9 (Operand.tmp 22)
    refine' anyZ_take (i := 8) (v := _) rfl (by rfl) (by kernel_rfl) (by kernel_rfl) (by kernel_rfl) hcl8 19 (by kernel_rfl) (by kernel_rfl) (fun _ _ _ h => h) (Or.inl ⟨by rfl, fun w hSw => ?hy9⟩) hHeld (fun hcl9 => ?ry9)
    case hy9 => (simp only [List.getElem_toArray, List.getElem_cons_succ, List.getElem_cons_zero]; obtain ⟨hS1, hS2⟩ := hSw; first | (go_simp; with_reducible rfl) | (go_simp; done) | rfl)
    simp only [List.getElem_toArray, List.getElem_cons_succ, List.getElem_cons_zero, Act.put, List.setIfInBounds_toArray, List.set_cons_zero, List.set_cons_succ]
    clear hHeld
    refine anyZ_chain_at (by kernel_rfl) ?_
    simp only [List.drop_succ_cons, List.drop_zero]
    clear HSB2 hrun
    have HN3 := Lib.hid (hn3.below (bdr (bre w3)))
    clear hn3
    go_upto_region 4 with fail
    obtain ⟨kv, hrow⟩ := HN3.out.mem.row ha
    have a1 := cell_of_row _ a.lab 1 _ _ _ hrow
    replace a1 : w3.drew.cell? ⟨a.lab, 1, none⟩ = some (.string (mk8 a.name)) := a1
    obtain ⟨q, cap, rfl, hcell⟩ := HN3.out.scopeRow
    have m6 := cell_of_row _ gm 6 _ _ _ HN3.out.box
    have hp := HN3.out.pos
    have hfw := HN3.out.few.2
    have hms := HN3.out.maps
    cases scope with
    | nil => cases hp
    | cons s sc =>
      cases hms with
      | @cons b ms' _ _ h1 h2 h3 =>
        obtain ⟨M, hM⟩ : ∃ M, M = ms'.length := ⟨_, rfl⟩
        have hMc : M + 1 ≤ 1000000 := by rw [hM]; rw [List.length_cons] at hfw; omega
        replace m6 : w3.drew.cell? ⟨gm, 6, none⟩ = some (.slice (some ⟨q, 0, none⟩) (M + 1) cap) := by rw [hM]; exact m6
        have hcl := hcell M b (by rw [hM]; exact Nat.lt_succ_self _) (by rw [hM, List.length_cons, Nat.add_sub_cancel, Nat.sub_self]; rfl)
        obtain ⟨f2, ⟨N2, D2, hN2, hfo2, hfd2⟩, hfs2⟩ := h1
        have hf2 : MapV Tryz.prog 9 encS w3.drew b (c + 1) f2 := ⟨N2, D2, hN2, hfo2, hfd2⟩
        obtain ⟨w5, hrun5, hf5, ho5, -⟩ := hf2.store keyedS undMT encS_inj a.name (.pointer (some ⟨a.lab, 0, none⟩)) (keyS a.name hsx) (by unfold maxLen; omega)
        unfold encS at hrun5
        have hn5 := HN3.out.bind a.name ⟨a, ha, rfl⟩ hf5 (Nat.le_refl _) hfs2 ho5
        have HSB4 : w3.drew.cell? ⟨gm, 6, none⟩ = some (.slice (some ⟨q, 0, none⟩) (M + 1) cap) ∧ w3.drew.cell? ⟨q, M, none⟩ = some (.map (some b)) ∧ w3.drew.cell? ⟨a.lab, 1, none⟩ = some (.string (mk8 a.name)) := ⟨m6, hcl, a1⟩
        have HN5 := Lib.hid hn5
        have HRE : Hid (R = (0, ⟨fun y => decide (y = a.name) || used y, Nm.putF s a.name a.lab :: sc, calls, ref⟩)) := Lib.hid (by rw [HR.out]; unfold Nm.declare; rw [if_neg (by rw [← HBU.out]; decide)])
        have k1 : (0 : Int) ≤ (M : Int) := by omega
        have k2 : (M : Int) < ((M + 1 : Nat) : Int) := by omega
        have k3 : (M : Int) < (M : Int) + 1 := by omega
        have w1e : ((M + 1 : Nat) : Int) - 1 = (M : Int) := by omega
        have w2e : wrap64 (((M + 1 : Nat) : Int) - 1) = (M : Int) := by unfold wrap64; omega
        have w3e : IntKind.i64.wrap (((M + 1 : Nat) : Int) - 1) = (M : Int) := by rw [IntKind.wrap_i64]; omega
        have w5e : IntKind.i64.wrap (M : Int) = (M : Int) := by rw [IntKind.wrap_i64]; omega
        have w4e : wrap64 (M : Int) = (M : Int) := by unfold wrap64; omega
        clear hrow a1 m6 hp hfw hcell hcl h2 h3 hfo2 hfd2 hfs2 hf2 hf5 ho5 hn5 hM HR HBU HN3
        refine region_anyZ (z := 18) (S := fun w' => w'.cell? ⟨gm, 6, none⟩ = some (.slice (some ⟨q, 0, none⟩) (M + 1) cap) ∧ w'.cell? ⟨q, M, none⟩ = some (.map (some b)) ∧ w'.cell? ⟨a.lab, 1, none⟩ = some (.string (mk8 a.name))) (by kernel_rfl) ?_
        refine anyZ_begin (fun hcl0 => ?_)
        refine anyZ_held (by exact HSB4) (fun hHeld => ?_)
        -- 0: Op.move (Operand.tmp 0)
        refine' anyZ_pure (i := 0) (v := _) rfl (by rfl) (by kernel_rfl) (by kernel_rfl) (by kernel_rfl) hcl0 (fun _ _ _ h => h) (Or.inl ⟨by rfl, fun w _ => ?hx1⟩) (fun _ => hHeld) (fun hcl1 => ?rx1)
        case hx1 => (simp only [List.getElem_toArray, List.getElem_cons_zero]; first | (go_simp; with_reducible rfl) | (go_simp; done) | rfl)
        simp only [List.getElem_toArray, List.getElem_cons_zero, Act.put, List.setIfInBounds_toArray, List.set_cons_zero, List.set_cons_succ]
        -- 1: Op.nilCheck (Operand.tmp 24)
        refine' anyZ_pure (i := 1) (v := _) rfl (by rfl) (by kernel_rfl) (by kernel_rfl) (by kernel_rfl) hcl1 (fun _ _ _ h => h) (Or.inl ⟨by rfl, fun w _ => ?hx2⟩) (fun _ => hHeld) (fun hcl2 => ?rx2)
        case hx2 => (simp only [List.getElem_toArray, List.getElem_cons_succ, List.getElem_cons_zero]; first | (go_simp; with_reducible rfl) | (go_simp; done) | rfl)
        simp only [List.getElem_toArray, List.getElem_cons_succ, List.getElem_cons_zero, Act.put, List.setIfInBounds_toArray, List.set_cons_zero, List.set_cons_succ]
        -- 2: Op.fieldAddr 57 (Operand.tmp 25) 6
        refine' anyZ_pure (i := 2) (v := _) rfl (by rfl) (by kernel_rfl) (by kernel_rfl) (by kernel_rfl) hcl2 (fun _ _ _ h => h) (Or.inl ⟨by rfl, fun w _ => ?hx3⟩) (fun _ => hHeld) (fun hcl3 => ?rx3)
        case hx3 => (simp only [List.getElem_toArray, List.getElem_cons_succ, List.getElem_cons_zero]; first | (go_simp; with_reducible rfl) | (go_simp; done) | rfl)
        simp only [List.getElem_toArray, List.getElem_cons_succ, List.getElem_cons_zero, Act.put, List.setIfInBounds_toArray, List.set_cons_zero, List.set_cons_succ]
        -- 3: Op.load 55 (Operand.tmp 26)
        refine' anyZ_take (i := 3) (v := _) rfl (by rfl) (by kernel_rfl) (by kernel_rfl) (by kernel_rfl) hcl3 19 (by kernel_rfl) (by kernel_rfl) (fun _ _ _ h => h) (Or.inl ⟨by rfl, fun w hSw => ?hx4⟩) hHeld (fun hcl4 => ?rx4)
        case hx4 => (simp only [List.getElem_toArray, List.getElem_cons_succ, List.getElem_cons_zero]; obtain ⟨hS1, hS2, hS3⟩ := hSw; first | (go_simp; with_reducible rfl) | (go_simp; done) | rfl)
        simp only [List.getElem_toArray, List.getElem_cons_succ, List.getElem_cons_zero, Act.put, List.setIfInBounds_toArray, List.set_cons_zero, List.set_cons_succ]
        -- 4: Op.move (Operand.tmp 0)
        refine' anyZ_pure (i := 4) (v := _) rfl (by rfl) (by kernel_rfl) (by kernel_rfl) (by kernel_rfl) hcl4 (fun _ _ _ h => h) (Or.inl ⟨by rfl, fun w _ => ?hx5⟩) (fun _ => hHeld) (fun hcl5 => ?rx5)
        case hx5 => (simp only [List.getElem_toArray, List.getElem_cons_succ, List.getElem_cons_zero]; first | (go_simp; with_reducible rfl) | (go_simp; done) | rfl)
        simp only [List.getElem_toArray, List.getElem_cons_succ, List.getElem_cons_zero, Act.put, List.setIfInBounds_toArray, List.set_cons_zero, List.set_cons_succ]
        -- 5: Op.nilCheck (Operand.tmp 28)
        refine' anyZ_pure (i := 5) (v := _) rfl (by rfl) (by kernel_rfl) (by kernel_rfl) (by kernel_rfl) hcl5 (fun _ _ _ h => h) (Or.inl ⟨by rfl, fun w _ => ?hx6⟩) (fun _ => hHeld) (fun hcl6 => ?rx6)
        case hx6 => (simp only [List.getElem_toArray, List.getElem_cons_succ, List.getElem_cons_zero]; first | (go_simp; with_reducible rfl) | (go_simp; done) | rfl)
        simp only [List.getElem_toArray, List.getElem_cons_succ, List.getElem_cons_zero, Act.put, List.setIfInBounds_toArray, List.set_cons_zero, List.set_cons_succ]
        -- 6: Op.fieldAddr 57 (Operand.tmp 29) 6
        refine' anyZ_pure (i := 6) (v := _) rfl (by rfl) (by kernel_rfl) (by kernel_rfl) (by kernel_rfl) hcl6 (fun _ _ _ h => h) (Or.inl ⟨by rfl, fun w _ => ?hx7⟩) (fun _ => hHeld) (fun hcl7 => ?rx7)
        case hx7 => (simp only [List.getElem_toArray, List.getElem_cons_succ, List.getElem_cons_zero]; first | (go_simp; with_reducible rfl) | (go_simp; done) | rfl)
        simp only [List.getElem_toArray, List.getElem_cons_succ, List.getElem_cons_zero, Act.put, List.setIfInBounds_toArray, List.set_cons_zero, List.set_cons_succ]
        -- 7: Op.load 55 (Operand.tmp 30)
        refine' anyZ_take (i := 7) (v := _) rfl (by rfl) (by kernel_rfl) (by kernel_rfl) (by kernel_rfl) hcl7 19 (by kernel_rfl) (by kernel_rfl) (fun _ _ _ h => h) (Or.inl ⟨by rfl, fun w hSw => ?hx8⟩) hHeld (fun hcl8 => ?rx8)
        case hx8 => (simp only [List.getElem_toArray, List.getElem_cons_succ, List.getElem_cons_zero]; obtain ⟨hS1, hS2, hS3⟩ := hSw; first | (go_simp; with_reducible rfl) | (go_simp; done) | rfl)
        simp only [List.getElem_toArray, List.getElem_cons_succ, List.getElem_cons_zero, Act.put, List.setIfInBounds_toArray, List.set_cons_zero, List.set_cons_succ]
        -- 8: Op.call { callee := Callee.builtin Builtin.len, args := #[Op
        refine' anyZ_pure (i := 8) (v := _) rfl (by rfl) (by kernel_rfl) (by kernel_rfl) (by kernel_rfl) hcl8 (fun _ _ _ h => h) (Or.inl ⟨by rfl, fun w _ => ?hx9⟩) (fun _ => hHeld) (fun hcl9 => ?rx9)
        case hx9 => (simp only [List.getElem_toArray, List.getElem_cons_succ, List.getElem_cons_zero]; first | (go_simp; with_reducible rfl) | (go_simp; done) | rfl)
        simp only [List.getElem_toArray, List.getElem_cons_succ, List.getElem_cons_zero, Act.put, List.setIfInBounds_toArray, List.set_cons_zero, List.set_cons_succ]
        -- 9: Op.binOp BinOp.sub 3 (Operand.tmp 32) (Operand.const (Value.
        refine' anyZ_pure (i := 9) (v := _) rfl (by rfl) (by kernel_rfl) (by kernel_rfl) (by kernel_rfl) hcl9 (fun _ _ _ h => h) (Or.inl ⟨by rfl, fun w _ => ?hx10⟩) (fun _ => hHeld) (fun hcl10 => ?rx10)
        case hx10 => (simp only [List.getElem_toArray, List.getElem_cons_succ, List.getElem_cons_zero]; first | (go_simp; with_reducible rfl) | (go_simp; done) | rfl)
        simp only [List.getElem_toArray, List.getElem_cons_succ, List.getElem_cons_zero, Act.put, List.setIfInBounds_toArray, List.set_cons_zero, List.set_cons_succ]
        -- 10: Op.indexAddr 55 (Operand.tmp 27) (Operand.tmp 33)
        refine' anyZ_pure (i := 10) (v := _) rfl (by rfl) (by kernel_rfl) (by kernel_rfl) (by kernel_rfl) hcl10 (fun _ _ _ h => h) (Or.inl ⟨by rfl, fun w _ => ?hx11⟩) (fun _ => hHeld) (fun hcl11 => ?rx11)
        case hx11 => (simp only [List.getElem_toArray, List.getElem_cons_succ, List.getElem_cons_zero]; first | (go_simp; with_reducible rfl) | (go_simp; done) | rfl)
        simp only [List.getElem_toArray, List.getElem_cons_succ, List.getElem_cons_zero, Act.put, List.setIfInBounds_toArray, List.set_cons_zero, List.set_cons_succ]
        -- 11: Op.load 97 (Operand.tmp 34)
        refine' anyZ_take (i := 11) (v := _) rfl (by rfl) (by kernel_rfl) (by kernel_rfl) (by kernel_rfl) hcl11 19 (by kernel_rfl) (by kernel_rfl) (fun _ _ _ h => h) (Or.inl ⟨by rfl, fun w hSw => ?hx12⟩) hHeld (fun hcl12 => ?rx12)
        case hx12 => (simp only [List.getElem_toArray, List.getElem_cons_succ, List.getElem_cons_zero]; obtain ⟨hS1, hS2, hS3⟩ := hSw; first | (go_simp; with_reducible rfl) | (go_simp; done) | rfl)
        simp only [List.getElem_toArray, List.getElem_cons_succ, List.getElem_cons_zero, Act.put, List.setIfInBounds_toArray, List.set_cons_zero, List.set_cons_succ]
        -- 12: Op.move (Operand.tmp 1)
        refine' anyZ_pure (i := 12) (v := _) rfl (by rfl) (by kernel_rfl) (by kernel_rfl) (by kernel_rfl) hcl12 (fun _ _ _ h => h) (Or.inl ⟨by rfl, fun w _ => ?hx13⟩) (fun _ => hHeld) (fun hcl13 => ?rx13)
        case hx13 => (simp only [List.getElem_toArray, List.getElem_cons_succ, List.getElem_cons_zero]; first | (go_simp; with_reducible rfl) | (go_simp; done) | rfl)
        simp only [List.getElem_toArray, List.getElem_cons_succ, List.getElem_cons_zero, Act.put, List.setIfInBounds_toArray, List.set_cons_zero, List.set_cons_succ]
        -- 13: Op.nilCheck (Operand.tmp 36)
        refine' anyZ_pure (i := 13) (v := _) rfl (by rfl) (by kernel_rfl) (by kernel_rfl) (by kernel_rfl) hcl13 (fun _ _ _ h => h) (Or.inl ⟨by rfl, fun w _ => ?hx14⟩) (fun _ => hHeld) (fun hcl14 => ?rx14)
        case hx14 => (simp only [List.getElem_toArray, List.getElem_cons_succ, List.getElem_cons_zero]; first | (go_simp; with_reducible rfl) | (go_simp; done) | rfl)
        simp only [List.getElem_toArray, List.getElem_cons_succ, List.getElem_cons_zero, Act.put, List.setIfInBounds_toArray, List.set_cons_zero, List.set_cons_succ]
        -- 14: Op.fieldAddr 74 (Operand.tmp 37) 0
        refine' anyZ_pure (i := 14) (v := _) rfl (by rfl) (by kernel_rfl) (by kernel_rfl) (by kernel_rfl) hcl14 (fun _ _ _ h => h) (Or.inl ⟨by rfl, fun w _ => ?hx15⟩) (fun _ => hHeld) (fun hcl15 => ?rx15)
        case hx15 => (simp only [List.getElem_toArray, List.getElem_cons_succ, List.getElem_cons_zero]; first | (go_simp; with_reducible rfl) | (go_simp; done) | rfl)
        simp only [List.getElem_toArray, List.getElem_cons_succ, List.getElem_cons_zero, Act.put, List.setIfInBounds_toArray, List.set_cons_zero, List.set_cons_succ]
        -- 15: Op.fieldAddr 38 (Operand.tmp 38) 1
        refine' anyZ_pure (i := 15) (v := _) rfl (by rfl) (by kernel_rfl) (by kernel_rfl) (by kernel_rfl) hcl15 (fun _ _ _ h => h) (Or.inl ⟨by rfl, fun w _ => ?hx16⟩) (fun _ => hHeld) (fun hcl16 => ?rx16)
        case hx16 => (simp only [List.getElem_toArray, List.getElem_cons_succ, List.getElem_cons_zero]; first | (go_simp; with_reducible rfl) | (go_simp; done) | rfl)
        simp only [List.getElem_toArray, List.getElem_cons_succ, List.getElem_cons_zero, Act.put, List.setIfInBounds_toArray, List.set_cons_zero, List.set_cons_succ]
        -- 16: Op.load 9 (Operand.tmp 39)
        refine' anyZ_take (i := 16) (v := _) rfl (by rfl) (by kernel_rfl) (by kernel_rfl) (by kernel_rfl) hcl16 19 (by kernel_rfl) (by kernel_rfl) (fun _ _ _ h => h) (Or.inl ⟨by rfl, fun w hSw => ?hx17⟩) hHeld (fun hcl17 => ?rx17)
        case hx17 => (simp only [List.getElem_toArray, List.getElem_cons_succ, List.getElem_cons_zero]; obtain ⟨hS1, hS2, hS3⟩ := hSw; first | (go_simp; with_reducible rfl) | (go_simp; done) | rfl)
        simp only [List.getElem_toArray, List.getElem_cons_succ, List.getElem_cons_zero, Act.put, List.setIfInBounds_toArray, List.set_cons_zero, List.set_cons_succ]
        -- 17: Op.move (Operand.tmp 1)
        refine' anyZ_pure (i := 17) (v := _) rfl (by rfl) (by kernel_rfl) (by kernel_rfl) (by kernel_rfl) hcl17 (fun _ _ _ h => h) (Or.inl ⟨by rfl, fun w _ => ?hx18⟩) (fun _ => hHeld) (fun hcl18 => ?rx18)
        case hx18 => (simp only [List.getElem_toArray, List.getElem_cons_succ, List.getElem_cons_zero]; first | (go_simp; with_reducible rfl) | (go_simp; done) | rfl)
        simp only [List.getElem_toArray, List.getElem_cons_succ, List.getElem_cons_zero, Act.put, List.setIfInBounds_toArray, List.set_cons_zero, List.set_cons_succ]
        clear hHeld
        refine anyZ_chain_at (by kernel_rfl) ?_
        simp only [List.drop_succ_cons, List.drop_zero]
        clear HSB4
        go_wp2_with fail
        refine bodyPost_ret (v := .int .i64 0) (by simp [results, Tryz.results51, go_sem]) rfl ?_
        exact ⟨by rw [HRE.out]; rfl, by rw [HRE.out]; exact HN5.out⟩
end Go.Proofs.YtljdphpbalioaaaGreatDoor
