/- Walk: a statement, or an expression, is visited. -/
import Derived.Test.YtljdphpbalioaaaGreatDoorGnV
namespace Go.Proofs.YtljdphpbalioaaaGreatDoor
open Go.RowKit

def VisSays (J : World → Prop) (gm N0 : Nat) (L : List (LT Nat)) (I : Nat → Nat) (ga : Value) (n : Nat) (mf mm : Value) (t : LT Nat) : Prop :=
  ∀ (w : World) (st : Nm.St Nat) (c mu : Nat) (ms : List Nat) (cv sv : Value), (∀ a ∈ t.nodes, a ∈ L) → VisM J gm N0 L I ga n mf mm w st c mu ms cv sv → c + 3 * t.count ≤ 900000 →
    Calls Tryz.prog 52 #[.pointer (some ⟨gm, 0, none⟩), ptrG t.lab] w fun e w' => e = .returned (.int .i64 ((Nm.visit I t st).1 : Nat)) ∧
      (((Nm.visit I t st).1 = 0 ∧ ∃ ms' cv' sv', VisM J gm N0 L I ga n mf mm w' (Nm.visit I t st).2 (c + 3 * t.count) mu ms' cv' sv') ∨ ((Nm.visit I t st).1 ≠ 0 ∧ J w'))

def KidsRow (q : Option Addr) (ks : List (LT Nat)) (w : World) : Prop := ∀ (j : Nat) k, ks[j]? = some k → ∃ b, q = some ⟨b, 0, none⟩ ∧ w.cell? ⟨b, j, none⟩ = some (ptrG k.lab)
section
variable {J J' : World → Prop} {gm N0 : Nat} {L : List (LT Nat)} {I : Nat → Nat} {ga : Value} {n : Nat} {mf mm : Value} {w w' : World} {st : Nm.St Nat} {c mu : Nat} {ms : List Nat} {cv sv : Value}
theorem VisM.withJ (h : VisM J gm N0 L I ga n mf mm w st c mu ms cv sv) (hj : ∀ w', Only w w' (OwnS gm L mu ms cv sv) → J' w') : VisM J' gm N0 L I ga n mf mm w st c mu ms cv sv :=
  ⟨h.mem, h.box, h.used, h.row, h.maps, h.calls, h.callsL, h.apart, h.low, h.pos, h.few, h.short, hj⟩
/-- a node's kids' row is none of the namer's own -/
theorem VisM.kidsRow (h : VisM J gm N0 L I ga n mf mm w st c mu ms cv sv) {t : LT Nat} (ht : t ∈ L) : ∃ q cap, w.heap[t.lab]? = some (.cells (rowN t (st.ref t.lab) (I t.lab) (.slice none 0 0) (.slice q t.kids.length cap)) 75 (0, 0)) ∧ VisM (fun w' => J w' ∧ KidsRow q t.kids w') gm N0 L I ga n mf mm w st c mu ms cv sv := by
  obtain ⟨q, cap, hrow, hkids⟩ := h.mem.kids ht
  refine ⟨q, cap, hrow, h.withJ fun w' ho => ⟨h.inv w' ho, fun j k hk => ?_⟩⟩
  rcases hkids with hz | ⟨b, rfl, hbN, ⟨cs, hcs⟩, hcell⟩
  · rw [hz] at hk; cases hk
  · refine ⟨b, rfl, ?_⟩
    have h1 := hcell j k hk
    have h2 := ho.block b (block_lt_of_cell h1) (fun e => by
      have hl := h.low
      rcases e with e | ⟨a, ha, e⟩ | e | e | e | e
      · omega
      · obtain ⟨kv, h3⟩ := h.mem.row ha
        rw [e, hcs] at h3
        cases h3
      · have := hl.2 mu (List.mem_cons_self ..); omega
      · have := hl.2 b (List.mem_cons_of_mem _ e); omega
      · have := (h.calls.lt b e).1; omega
      · have := (h.row.lt b e).1; omega)
    unfold World.cell? at h1 ⊢
    rw [h2]
    exact h1
end
theorem countL_len : ∀ l : List (LT Nat), l.length ≤ LT.countL l
  | [] => Nat.le_refl _
  | t :: r => by
    have := countL_len r
    unfold LT.countL
    rw [LT.count_kids t, List.length_cons]
    omega
set_option linter.unusedSimpArgs false in
set_option maxRecDepth 40000 in
set_option maxHeartbeats 3200000 in
theorem visit_walk (J : World → Prop) (gm N0 : Nat) (L : List (LT Nat)) (I : Nat → Nat) (ga : Value) (n : Nat) (mf mm : Value) (t : LT Nat) (hih : ∀ k ∈ t.kids, ∀ J, VisSays J gm N0 L I ga n mf mm k) : VisSays J gm N0 L I ga n mf mm t := by
  intro w st c mu ms cv sv hsub h hc
  have htL : t ∈ L := hsub t (LT.nodes_self t)
  have HKS : Hid (∀ k ∈ t.kids, ∀ a ∈ k.nodes, a ∈ L) := Lib.hid (fun k hk a ha => hsub a (LT.nodes_kid hk ha))
  have HIH := Lib.hid hih
  have hcount := LT.count_kids t
  have hlen := countL_len t.kids
  have HCNT : Hid (c + 3 + 3 * LT.countL t.kids ≤ c + 3 * t.count) := Lib.hid (by omega)
  have hc3 : c + 3 ≤ 900000 := by omega
  have HC := Lib.hid hc
  obtain ⟨V, hV⟩ : ∃ V, V = Nm.visit I t st := ⟨_, rfl⟩
  rw [← hV]
  have HV := Lib.hid hV
  obtain ⟨P, hP⟩ : ∃ P, P = Nm.pre I t.lab t.kind t.mod t.tgt st := ⟨_, rfl⟩
  have HP := Lib.hid hP
  have H1 := Lib.hid h
  have HL5 : Hid (t.kind = 5 → 2 ≤ P.2.scope.length) := Lib.hid (fun h5 => by rw [hP, pre_len, if_pos h5]; have := h.pos; omega)
  obtain ⟨kv, hrow⟩ := h.mem.row htL
  have c0 := cell_of_row w t.lab 0 _ _ _ hrow
  replace c0 : w.cell? ⟨t.lab, 0, none⟩ = some (.int .u8 (t.kind : Nat)) := c0
  have c7 := cell_of_row w t.lab 7 _ _ _ hrow
  replace c7 : w.cell? ⟨t.lab, 7, none⟩ = some (.string (mk8 t.tgt)) := c7
  clear hih hsub hV hP hcount hlen h hrow hc
  go_enter Tryz.func52, Tryz.ntmps52
  unfold ptrG
  go_upto_block 0 with fail
  go_cut [5] from 14 to 57 (fun _ w' => P.1 = 0 ∧ ∃ ms' cv' sv', Hid (VisM J gm N0 L I ga n mf mm w' P.2 (c + 1) mu ms' cv' sv'))
  case first =>
    clear HKS HIH
    by_cases h7 : t.kind = 7
    · have HK := Lib.hid h7
      have d7 : decide ((t.kind : Int) = 7) = true := decide_eq_true (by omega)
      have b7 : ((t.kind : Int) == 7) = true := beq_iff_eq.2 (by omega)
      clear h7
      have hsh := (H1.out.short t htL).2.1
      go_wp2_with fail
      refine (find_any J gm N0 L I ga n mf mm w st c mu ms cv sv t.tgt hsh (by omega) H1.out).mono ?_
      rintro e w1 ⟨hw1, hres⟩
      subst hw1
      obtain ⟨kv, hrow⟩ := H1.out.mem.row htL
      have c4 := cell_of_row _ t.lab 4 _ _ _ hrow
      have cf := fun i => frozen_of_row _ t.lab i _ _ hrow
      rcases hres with ⟨k, hk, rfl⟩ | ⟨hk, rfl⟩
      · have HP2 : Hid (P = (0, ⟨st.used, st.scope, st.calls, updF st.ref t.lab (I k)⟩)) := Lib.hid (by rw [HP.out]; unfold Nm.pre; rw [if_pos (by have := HK.out; omega), hk])
        have hn2 := (H1.out.refs htL (I k)).mono (Nat.le_succ c)
        have HN2 := Lib.hid hn2
        clear hk hrow hn2 HP
        go_wp2_with fail
        go_meet
        exact ⟨by rw [HP2.out], ms, cv, sv, by rw [HP2.out]; exact HN2⟩
      · have HP2 : Hid (P = (9, st)) := Lib.hid (by rw [HP.out]; unfold Nm.pre; rw [if_pos (by have := HK.out; omega), hk])
        have HJ := Lib.hid (H1.out.refs htL 0).holds
        have HVE : Hid (V = (9, st)) := Lib.hid (by rw [HV.out, visit_err (by rw [← HP.out, HP2.out]; exact (show (9 : Nat) ≠ 0 by decide)), ← HP.out, HP2.out])
        clear hk hrow HP
        go_wp2_with fail
        refine bodyPost_ret (v := .int .i64 9) (by simp [results, Tryz.results52, go_sem]) rfl ?_
        exact ⟨by rw [HVE.out]; rfl, .inr ⟨by rw [HVE.out]; exact (show (9 : Nat) ≠ 0 by decide), HJ.out⟩⟩
    · by_cases h15 : t.kind = 15
      · have HK := Lib.hid h15
        have d7 : decide ((t.kind : Int) = 7) = false := decide_eq_false (by omega)
        have b7 : ((t.kind : Int) == 7) = false := by rw [beq_eq_false_iff_ne]; omega
        have d15 : decide ((t.kind : Int) = 15) = true := decide_eq_true (by omega)
        have b15 : ((t.kind : Int) == 15) = true := beq_iff_eq.2 (by omega)
        clear h7 h15
        have hsh := (H1.out.short t htL).2.1
        go_wp2_with fail
        refine (find_any J gm N0 L I ga n mf mm w st c mu ms cv sv t.tgt hsh (by omega) H1.out).mono ?_
        rintro e w1 ⟨hw1, hres⟩
        subst hw1
        obtain ⟨kv, hrow⟩ := H1.out.mem.row htL
        have c4 := cell_of_row _ t.lab 4 _ _ _ hrow
        have cf := fun i => frozen_of_row _ t.lab i _ _ hrow
        rcases hres with ⟨k, hk, rfl⟩ | ⟨hk, rfl⟩
        · have HP2 : Hid (P = (0, ⟨st.used, st.scope, st.calls, updF st.ref t.lab (I k)⟩)) := Lib.hid (by rw [HP.out]; unfold Nm.pre; rw [if_pos (by have := HK.out; omega), hk])
          have hn2 := (H1.out.refs htL (I k)).mono (Nat.le_succ c)
          have HN2 := Lib.hid hn2
          clear hk hrow hn2 HP
          go_wp2_with fail
          go_meet
          exact ⟨by rw [HP2.out], ms, cv, sv, by rw [HP2.out]; exact HN2⟩
        · have HP2 : Hid (P = (9, st)) := Lib.hid (by rw [HP.out]; unfold Nm.pre; rw [if_pos (by have := HK.out; omega), hk])
          have HJ := Lib.hid (H1.out.refs htL 0).holds
          have HVE : Hid (V = (9, st)) := Lib.hid (by rw [HV.out, visit_err (by rw [← HP.out, HP2.out]; exact (show (9 : Nat) ≠ 0 by decide)), ← HP.out, HP2.out])
          clear hk hrow HP
          go_wp2_with fail
          refine bodyPost_ret (v := .int .i64 9) (by simp [results, Tryz.results52, go_sem]) rfl ?_
          exact ⟨by rw [HVE.out]; rfl, .inr ⟨by rw [HVE.out]; exact (show (9 : Nat) ≠ 0 by decide), HJ.out⟩⟩
      · by_cases h19 : t.kind = 19
        · have HK := Lib.hid h19
          have d7 : decide ((t.kind : Int) = 7) = false := decide_eq_false (by omega)
          have b7 : ((t.kind : Int) == 7) = false := by rw [beq_eq_false_iff_ne]; omega
          have d15 : decide ((t.kind : Int) = 15) = false := decide_eq_false (by omega)
          have b15 : ((t.kind : Int) == 15) = false := by rw [beq_eq_false_iff_ne]; omega
          have d19 : decide ((t.kind : Int) = 19) = true := decide_eq_true (by omega)
          have b19 : ((t.kind : Int) == 19) = true := beq_iff_eq.2 (by omega)
          clear h7 h15 h19
          obtain ⟨qc, cc, hcv, -⟩ := ownsRow_lies H1.out.calls
          have m4 := cell_of_row w gm 4 _ _ _ H1.out.box
          replace m4 : w.cell? ⟨gm, 4, none⟩ = some cv := m4
          have hb3 := bal (bre w) (.cells #[.pointer (some ⟨t.lab, 0, none⟩)] 47)
          have hnews : ∀ j u, [Value.pointer (some ⟨t.lab, 0, none⟩)][j]? = some u → (w.alloc (.cells #[.pointer (some ⟨t.lab, 0, none⟩)] 47)).cell? ((⟨w.heap.size, 0, none⟩ : Addr).add j) = some u := fun j u hu => by
            match j, hu with
            | 0, hu => cases hu; exact cell_of_row _ _ 0 _ _ _ (heap_alloc_new w _)
          have H3 := Lib.hid (H1.out.below hb3)
          have HNEWS := Lib.hid hnews
          have HSZ : Hid (N0 ≤ (w.alloc (.cells #[.pointer (some ⟨t.lab, 0, none⟩)] 47)).heap.size) := Lib.hid (by have := H1.out.low.1; have := (Array.getElem?_eq_some_iff.1 H3.out.box).1; omega)
          obtain ⟨CL, hCL⟩ : ∃ CL, CL = st.calls.map (fun c : Bs × Bs × Nat => ptrG c.2.2) := ⟨_, rfl⟩
          have HCL := Lib.hid hCL
          have HLN : Hid (CL.length ≤ c) := Lib.hid (by rw [hCL, List.length_map]; exact H1.out.few.1)
          have HC3 : Hid (OwnPtrs N0 (w.alloc (.cells #[.pointer (some ⟨t.lab, 0, none⟩)] 47)) cv CL) := Lib.hid (by rw [hCL]; exact H3.out.calls)
          have HP2 : Hid (P = (0, ⟨st.used, st.scope, st.calls ++ [(t.mod, t.tgt, t.lab)], st.ref⟩)) := Lib.hid (by rw [HP.out]; unfold Nm.pre; rw [if_neg (by have := HK.out; omega), if_pos (by have := HK.out; omega)])
          clear hb3 hnews hcv HP hCL
          go_wp2_with (at_builtin; refine wpList_app' rfl _ _ 53 47 1 8 rowPtr rfl N0 cv CL.length CL rfl HC3.out _ 1 1 [.pointer (some ⟨t.lab, 0, none⟩)] rfl rfl HNEWS.out (by simp [Value.oneCell']) (by have := HLN.out; unfold maxLen; omega) (by have := HLN.out; omega) HSZ.out ?_; intro v8 w8 k8 hg8 hs8; have HN8 := Lib.hid (H3.out.callsOn htL hg8 hs8 (by rw [← HCL.out]; unfold OwnPtrs; rw [List.length_append, List.length_singleton]; exact k8)); obtain ⟨a8, c8, rfl, -⟩ := ownsRow_lies k8; have hr8 := H3.out.box.only (Only.of_grown hg8) (fun e => own_ne H3.out.calls H3.out.box (by decide) e); have hf8 := fun i => frozen_of_row w8 gm i _ _ hr8; have hk8 := cell_of_row w8 gm 4 _ _ _ hr8; clear hr8 k8 hg8 hs8)
          go_meet
          exact ⟨by rw [HP2.out], ms, _, sv, by rw [HP2.out]; exact HN8⟩
        · by_cases h5 : t.kind = 5
          · have HK := Lib.hid h5
            have d7 : decide ((t.kind : Int) = 7) = false := decide_eq_false (by omega)
            have b7 : ((t.kind : Int) == 7) = false := by rw [beq_eq_false_iff_ne]; omega
            have d15 : decide ((t.kind : Int) = 15) = false := decide_eq_false (by omega)
            have b15 : ((t.kind : Int) == 15) = false := by rw [beq_eq_false_iff_ne]; omega
            have d19 : decide ((t.kind : Int) = 19) = false := decide_eq_false (by omega)
            have b19 : ((t.kind : Int) == 19) = false := by rw [beq_eq_false_iff_ne]; omega
            have d5 : decide ((t.kind : Int) = 5) = true := decide_eq_true (by omega)
            have b5 : ((t.kind : Int) == 5) = true := beq_iff_eq.2 (by omega)
            clear h7 h15 h19 h5
            have m6 := cell_of_row w gm 6 _ _ _ H1.out.box
            replace m6 : w.cell? ⟨gm, 6, none⟩ = some sv := m6
            have hmm := @run_makeMap Tryz.prog
            have hb1 := bal (bre w) (.map #[] 0)
            have hb3 := bal (bre (w.alloc (.map #[] 0))) (.cells #[.map (some w.heap.size)] 99)
            have hnews : ∀ j u, [Value.map (some w.heap.size)][j]? = some u → ((w.alloc (.map #[] 0)).alloc (.cells #[.map (some w.heap.size)] 99)).cell? ((⟨w.heap.size + 1, 0, none⟩ : Addr).add j) = some u := fun j u hu => by
              match j, hu with
              | 0, hu =>
                cases hu
                have h1 := heap_alloc_new (w.alloc (.map #[] 0)) (.cells #[.map (some w.heap.size)] 99)
                rw [show (w.alloc (.map #[] 0)).heap.size = w.heap.size + 1 by simp] at h1
                exact cell_of_row _ _ 0 _ _ _ h1
            have H3 := Lib.hid ((H1.out.below hb1).below hb3)
            have HNEWS := Lib.hid hnews
            have HSZ : Hid (N0 ≤ ((w.alloc (.map #[] 0)).alloc (.cells #[.map (some w.heap.size)] 99)).heap.size) := Lib.hid (by have := H1.out.low.1; have := (Array.getElem?_eq_some_iff.1 H3.out.box).1; omega)
            have HLN : Hid (ms.length ≤ c) := Lib.hid H1.out.few.2
            have HP2 : Hid (P = (0, ⟨st.used, (fun _ => none) :: st.scope, st.calls, st.ref⟩)) := Lib.hid (by rw [HP.out]; unfold Nm.pre; rw [if_neg (by have := HK.out; omega), if_neg (by have := HK.out; omega), if_pos (by have := HK.out; omega)])
            clear hb1 hb3 hnews HP
            go_wp2_with (at_builtin; refine wpList_app' rfl _ _ 54 99 1 8 rowMaps rfl N0 sv ms.length (mapsRow ms) rfl H3.out.row ⟨w.heap.size + 1, 0, none⟩ 1 1 [.map (some w.heap.size)] rfl rfl HNEWS.out (by simp [Value.oneCell']) (by have := HLN.out; unfold maxLen; omega) (by have := HLN.out; omega) HSZ.out ?_; intro v8 w8 k8 hg8 hs8; have HN8 := Lib.hid (H1.out.pushed hg8 hs8 k8); obtain ⟨a8, c8, rfl, -⟩ := ownsRow_lies k8; have hr8 := H3.out.box.only (Only.of_grown hg8) (fun e => own_ne H3.out.row H3.out.box (by decide) e); have hf8 := fun i => frozen_of_row w8 gm i _ _ hr8; have hk8 := cell_of_row w8 gm 6 _ _ _ hr8; clear hr8 k8 hg8 hs8)
            go_meet
            exact ⟨by rw [HP2.out], _, cv, _, by rw [HP2.out]; exact HN8⟩
          · have HK := Lib.hid (And.intro h7 (And.intro h15 (And.intro h19 h5)))
            have d7 : decide ((t.kind : Int) = 7) = false := decide_eq_false (by omega)
            have b7 : ((t.kind : Int) == 7) = false := by rw [beq_eq_false_iff_ne]; omega
            have d15 : decide ((t.kind : Int) = 15) = false := decide_eq_false (by omega)
            have b15 : ((t.kind : Int) == 15) = false := by rw [beq_eq_false_iff_ne]; omega
            have d19 : decide ((t.kind : Int) = 19) = false := decide_eq_false (by omega)
            have b19 : ((t.kind : Int) == 19) = false := by rw [beq_eq_false_iff_ne]; omega
            have d5 : decide ((t.kind : Int) = 5) = false := decide_eq_false (by omega)
            have b5 : ((t.kind : Int) == 5) = false := by rw [beq_eq_false_iff_ne]; omega
            clear h7 h15 h19 h5
            have HP2 : Hid (P = (0, st)) := Lib.hid (by rw [HP.out]; unfold Nm.pre; rw [if_neg (by have := HK.out; omega), if_neg (by have := HK.out; omega), if_neg (by have := HK.out; omega)])
            have HN2 := Lib.hid (H1.out.mono (Nat.le_succ c))
            clear HP H1
            go_wp2_with fail
            go_meet
            exact ⟨by rw [HP2.out], ms, cv, sv, by rw [HP2.out]; exact HN2⟩
  case rest =>
    clear c0 c7 H1
    obtain ⟨hp0, ms1, cv1, sv1, HN1⟩ := hcut
    have HP0 := Lib.hid hp0
    obtain ⟨q, cq, hrow, hn1⟩ := HN1.out.kidsRow htL
    have g8 := cell_of_row wc t.lab 8 _ _ _ hrow
    replace g8 : wc.cell? ⟨t.lab, 8, none⟩ = some (.slice q t.kids.length cq) := g8
    obtain ⟨M, hM⟩ : ∃ M, M = t.kids.length := ⟨_, rfl⟩
    rw [← hM] at g8
    have HMM := Lib.hid hM
    have hfew : M ≤ 900000 := by rw [hM]; have := countL_len t.kids; have := HC.out; have := LT.count_kids t; omega
    obtain ⟨VL, hVL⟩ : ∃ VL, VL = Nm.visitL I t.kids P.2 := ⟨_, rfl⟩
    have HVL := Lib.hid hVL
    have HNN := Lib.hid hn1
    have HVP : Hid (Nm.pre I t.lab t.kind t.mod t.tgt st = P) := Lib.hid HP.out.symm
    clear hp0 HN1 hrow hn1 hM hVL HP
    go_upto_region 13 with fail
    go_loopw [7, 8, 62] (fun _ _ i wr => ∃ (j : Nat) (st' : Nm.St Nat) (c' : Nat) (ms' : List Nat) (cv' sv' : Value), j ≤ M ∧ i = .int .i64 j ∧ Hid (Nm.visitL I (t.kids.drop j) st' = VL) ∧ Hid (c' + 3 * LT.countL (t.kids.drop j) + 2 ≤ c + 3 * t.count) ∧ Hid (VisM (fun w' => J w' ∧ KidsRow q t.kids w') gm N0 L I ga n mf mm wr st' c' mu ms' cv' sv')) (fun _ _ i _ => M - (intOf i).toNat)
    case atStart => exact ⟨0, P.2, c + 1, ms1, cv1, sv1, by omega, rfl, Lib.hid (by rw [List.drop_zero, HVL.out]), Lib.hid (by rw [List.drop_zero]; have := HCNT.out; omega), HNN⟩
    case round =>
      clear HNN g8
      obtain ⟨j, st', c', ms', cv', sv', hj, rfl, hrd, hcn, hns⟩ := hrel
      rename World => wr
      by_cases hlt : j < M
      · have d1 : decide ((j : Int) < (M : Int)) = true := decide_eq_true (by omega)
        have d1n : decide (j < M) = true := decide_eq_true hlt
        have hjl : j < t.kids.length := by rw [← HMM.out]; exact hlt
        obtain ⟨k, hk⟩ : ∃ k, t.kids[j]? = some k := ⟨_, List.getElem?_eq_getElem hjl⟩
        have hkm : k ∈ t.kids := List.mem_of_getElem? hk
        have hdr : t.kids.drop j = k :: t.kids.drop (j + 1) := by
          rw [List.drop_eq_getElem_cons hjl]
          rw [List.getElem?_eq_getElem hjl] at hk
          rw [Option.some.inj hk]
        obtain ⟨b, rfl, hcell⟩ := hns.out.holds.2 j k hk
        have k1 : (0 : Int) ≤ (j : Int) := by omega
        have k2 : (j : Int) < (M : Int) := by omega
        have HIK := Lib.hid (HIH.out k hkm (fun w' => J w' ∧ KidsRow (some ⟨b, 0, none⟩) t.kids w'))
        have HSK := Lib.hid (HKS.out k hkm)
        have HRD : Hid (Nm.visitL I (k :: t.kids.drop (j + 1)) st' = VL) := Lib.hid (by rw [← hrd.out, hdr])
        have HCN : Hid (c' + 3 * k.count + 3 * LT.countL (t.kids.drop (j + 1)) + 2 ≤ c + 3 * t.count) := Lib.hid (by have := hcn.out; rw [hdr] at this; unfold LT.countL at this; omega)
        unfold ptrG at hcell
        clear hk hkm hdr hrd hcn hjl
        go_wp2_with fail
        refine (HIK.out wr st' c' mu ms' cv' sv' HSK.out hns.out (by have := HCN.out; have := HC.out; omega)).mono ?_
        rintro e w3 ⟨rfl, hres⟩
        obtain ⟨VK, hVK⟩ : ∃ VK, VK = Nm.visit I k st' := ⟨_, rfl⟩
        rw [← hVK] at hres ⊢
        have HVK := Lib.hid hVK
        obtain ⟨ve, vst⟩ := VK
        replace hres : (ve = 0 ∧ ∃ ms' cv' sv', VisM (fun w' => J w' ∧ KidsRow (some ⟨b, 0, none⟩) t.kids w') gm N0 L I ga n mf mm w3 vst (c' + 3 * k.count) mu ms' cv' sv') ∨ (ve ≠ 0 ∧ (J w3 ∧ KidsRow (some ⟨b, 0, none⟩) t.kids w3)) := hres
        clear hns hcell hVK
        rcases hres with ⟨hv0, ms2, cv2, sv2, hn3⟩ | ⟨hv0, hj3⟩
        · have e1 : ((ve : Int) != 0) = false := by rw [hv0]; rfl
          have e2 : decide ((ve : Int) = 0) = true := decide_eq_true (by omega)
          have e3 : ((ve : Int) == 0) = true := by rw [hv0]; rfl
          have HRD2 : Hid (Nm.visitL I (t.kids.drop (j + 1)) vst = VL) := Lib.hid (by
            rw [← HRD.out]
            conv => rhs; unfold Nm.visitL
            rw [← HVK.out]
            exact (if_pos hv0).symm)
          have HN3 := Lib.hid hn3
          have HCN2 : Hid (c' + 3 * k.count + 3 * LT.countL (t.kids.drop (j + 1)) + 2 ≤ c + 3 * t.count) := HCN
          clear hv0 hn3 HRD HVK
          go_wp2_with fail
          go_roundw
          case rel => first | exact ⟨j + 1, _, _, ms2, cv2, sv2, by omega, by go_num, HRD2, HCN2, HN3⟩ | ((repeat apply Exists.intro); exact ⟨⟨j + 1, _, _, ms2, cv2, sv2, by omega, by go_num, HRD2, HCN2, HN3⟩, rfl⟩)
          case measure => simp [intOf]; omega
        · have e1 : ((ve : Int) != 0) = true := by simp only [bne_iff_ne, ne_eq]; omega
          have e2 : decide ((ve : Int) = 0) = false := decide_eq_false (by omega)
          have e3 : ((ve : Int) == 0) = false := by rw [beq_eq_false_iff_ne]; omega
          have HRE : Hid (VL = (ve, vst)) := Lib.hid (by
            rw [← HRD.out]
            unfold Nm.visitL
            rw [← HVK.out]
            exact if_neg hv0)
          have HV2 : Hid (V = (ve, vst) ∧ ve ≠ 0) := Lib.hid ⟨by rw [HV.out, visit_mid (by rw [HVP.out]; exact HP0.out) (by rw [HVP.out, ← HVL.out, HRE.out]; exact hv0), HVP.out, ← HVL.out, HRE.out], hv0⟩
          have HJ3 := Lib.hid hj3.1
          clear hv0 hj3 HRD HVK
          go_wp2_with fail
          refine bodyPost_ret (v := .int .i64 (ve : Nat)) (by simp [results, Tryz.results52, go_sem]) rfl ?_
          exact ⟨by rw [HV2.out.1], .inr ⟨by rw [HV2.out.1]; exact HV2.out.2, HJ3.out⟩⟩
      · have d1 : decide ((j : Int) < (M : Int)) = false := decide_eq_false (by omega)
        have d1n : decide (j < M) = false := decide_eq_false hlt
        have hz : t.kids.drop j = [] := List.drop_eq_nil_of_le (by rw [← HMM.out]; omega)
        have HRE : Hid (VL = (0, st')) := Lib.hid (by rw [← hrd.out, hz]; rfl)
        have HV2 : Hid (V = Nm.post t.lab t.kind t.name st') := Lib.hid (by rw [HV.out, visit_end (by rw [HVP.out]; exact HP0.out) (by rw [HVP.out, ← HVL.out, HRE.out]), HVP.out, ← HVL.out, HRE.out])
        have HLN : Hid (t.kind = 5 → 2 ≤ st'.scope.length) := Lib.hid (fun h5 => by
          have h1 := visitL_len (I := I) t.kids P.2 (by rw [← HVL.out, HRE.out])
          rw [← HVL.out, HRE.out] at h1
          rw [show st'.scope.length = P.2.scope.length from h1]
          exact HL5.out h5)
        have hc2 : c' + 2 ≤ c + 3 * t.count := by have := hcn.out; omega
        have HN5 := Lib.hid (hns.out.withJ (J' := J) fun w' h' => (hns.out.inv w' h').1)
        obtain ⟨kv5, hrow5⟩ := HN5.out.mem.row htL
        have c0 := cell_of_row wr t.lab 0 _ _ _ hrow5
        replace c0 : wr.cell? ⟨t.lab, 0, none⟩ = some (.int .u8 (t.kind : Nat)) := c0
        clear hrd hcn hns hz hrow5 HRE HVL HVP HV HL5 HP0
        by_cases h5 : t.kind = 5
        · have HK := Lib.hid h5
          have d5 : decide ((t.kind : Int) = 5) = true := decide_eq_true (by omega)
          have b5 : ((t.kind : Int) == 5) = true := beq_iff_eq.2 (by omega)
          have hln := HLN.out h5
          clear h5
          obtain ⟨used, scope, calls, ref⟩ := st'
          replace hln : 2 ≤ scope.length := hln
          cases scope with
          | nil => cases hln
          | cons s sc =>
            obtain ⟨q2, cap, rfl, -⟩ := HN5.out.scopeRow
            have hms := HN5.out.maps.len
            cases ms' with
            | nil => cases hms
            | cons b ms6 =>
              obtain ⟨M2, hM2⟩ : ∃ M2, M2 = ms6.length := ⟨_, rfl⟩
              have hn5 := HN5.out
              rw [List.length_cons, ← hM2] at hn5
              have hMc : M2 + 1 ≤ 900000 := by have h7 : ms6.length + 1 ≤ c' := hn5.few.2; have h8 := HC.out; omega
              have hcap : M2 + 1 ≤ cap := by
                rcases hn5.row.2 with ⟨h1, -⟩ | ⟨_, _, _, h1, _, _, h2, _⟩
                · cases h1
                · cases h1
                  rw [List.length_cons, ← hM2] at h2
                  exact h2
              have hn6 := (hn5.below (bdr (bre wr))).popped (M := M2) hM2 (by have := hln; rw [List.length_cons] at this; omega)
              have HNZ := Lib.hid (hn6.mono (Nat.le_trans (Nat.le_add_right _ 2) hc2))
              have HV3 : Hid (V = (0, ⟨used, sc, calls, ref⟩)) := Lib.hid (by rw [HV2.out]; unfold Nm.post; rw [if_pos HK.out]; rfl)
              have m6 := cell_of_row _ gm 6 _ _ _ (hn5.below (bdr (bre wr))).box
              replace m6 : wr.drew.cell? ⟨gm, 6, none⟩ = some (.slice (some ⟨q2, 0, none⟩) (M2 + 1) cap) := m6
              have mfz := fun i => frozen_of_row _ gm i _ _ (hn5.below (bdr (bre wr))).box
              have HSB := m6
              have k1 : (0 : Int) ≤ (M2 : Int) := by omega
              have k2 : (M2 : Int) ≤ (cap : Int) := by omega
              have k3 : (M2 : Int) < (M2 : Int) + 1 := by omega
              have w5e : IntKind.i64.wrap (M2 : Int) = (M2 : Int) := by rw [IntKind.wrap_i64]; omega
              have w6e : wrap64 (M2 : Int) = (M2 : Int) := by unfold wrap64; omega
              clear hn5 hn6 hms hln HN5 HV2 HLN hM2
              go_upto_region 21 with fail
              refine region_anyZ (z := 12) (S := fun w' => w'.cell? ⟨gm, 6, none⟩ = some (.slice (some ⟨q2, 0, none⟩) (M2 + 1) cap)) (by kernel_rfl) ?_
              refine anyZ_begin (fun hcl0 => ?_)
              refine anyZ_held (by exact HSB) (fun hHeld => ?_)
              -- 0: Op.move (Operand.tmp 0)
              refine' anyZ_pure (i := 0) (v := _) rfl (by rfl) (by kernel_rfl) (by kernel_rfl) (by kernel_rfl) hcl0 (fun _ _ _ h => h) (Or.inl ⟨by rfl, fun w _ => ?hz1⟩) (fun _ => hHeld) (fun hcl1 => ?rz1)
              case hz1 => (simp only [List.getElem_toArray, List.getElem_cons_zero]; first | (go_simp; with_reducible rfl) | (go_simp; done) | rfl)
              simp only [List.getElem_toArray, List.getElem_cons_zero, Act.put, List.setIfInBounds_toArray, List.set_cons_zero, List.set_cons_succ]
              -- 1: Op.move (Operand.tmp 0)
              refine' anyZ_pure (i := 1) (v := _) rfl (by rfl) (by kernel_rfl) (by kernel_rfl) (by kernel_rfl) hcl1 (fun _ _ _ h => h) (Or.inl ⟨by rfl, fun w _ => ?hz2⟩) (fun _ => hHeld) (fun hcl2 => ?rz2)
              case hz2 => (simp only [List.getElem_toArray, List.getElem_cons_succ, List.getElem_cons_zero]; first | (go_simp; with_reducible rfl) | (go_simp; done) | rfl)
              simp only [List.getElem_toArray, List.getElem_cons_succ, List.getElem_cons_zero, Act.put, List.setIfInBounds_toArray, List.set_cons_zero, List.set_cons_succ]
              -- 2: Op.nilCheck (Operand.tmp 81)
              refine' anyZ_pure (i := 2) (v := _) rfl (by rfl) (by kernel_rfl) (by kernel_rfl) (by kernel_rfl) hcl2 (fun _ _ _ h => h) (Or.inl ⟨by rfl, fun w _ => ?hz3⟩) (fun _ => hHeld) (fun hcl3 => ?rz3)
              case hz3 => (simp only [List.getElem_toArray, List.getElem_cons_succ, List.getElem_cons_zero]; first | (go_simp; with_reducible rfl) | (go_simp; done) | rfl)
              simp only [List.getElem_toArray, List.getElem_cons_succ, List.getElem_cons_zero, Act.put, List.setIfInBounds_toArray, List.set_cons_zero, List.set_cons_succ]
              -- 3: Op.fieldAddr 57 (Operand.tmp 82) 6
              refine' anyZ_pure (i := 3) (v := _) rfl (by rfl) (by kernel_rfl) (by kernel_rfl) (by kernel_rfl) hcl3 (fun _ _ _ h => h) (Or.inl ⟨by rfl, fun w _ => ?hz4⟩) (fun _ => hHeld) (fun hcl4 => ?rz4)
              case hz4 => (simp only [List.getElem_toArray, List.getElem_cons_succ, List.getElem_cons_zero]; first | (go_simp; with_reducible rfl) | (go_simp; done) | rfl)
              simp only [List.getElem_toArray, List.getElem_cons_succ, List.getElem_cons_zero, Act.put, List.setIfInBounds_toArray, List.set_cons_zero, List.set_cons_succ]
              -- 4: Op.load 55 (Operand.tmp 83)
              refine' anyZ_take (i := 4) (v := _) rfl (by rfl) (by kernel_rfl) (by kernel_rfl) (by kernel_rfl) hcl4 15 (by kernel_rfl) (by kernel_rfl) (fun _ _ _ h => h) (Or.inl ⟨by rfl, fun w hSw => ?hz5⟩) hHeld (fun hcl5 => ?rz5)
              case hz5 => (simp only [List.getElem_toArray, List.getElem_cons_succ, List.getElem_cons_zero]; have hS1 := hSw; first | (go_simp; with_reducible rfl) | (go_simp; done) | rfl)
              simp only [List.getElem_toArray, List.getElem_cons_succ, List.getElem_cons_zero, Act.put, List.setIfInBounds_toArray, List.set_cons_zero, List.set_cons_succ]
              -- 5: Op.move (Operand.tmp 0)
              refine' anyZ_pure (i := 5) (v := _) rfl (by rfl) (by kernel_rfl) (by kernel_rfl) (by kernel_rfl) hcl5 (fun _ _ _ h => h) (Or.inl ⟨by rfl, fun w _ => ?hz6⟩) (fun _ => hHeld) (fun hcl6 => ?rz6)
              case hz6 => (simp only [List.getElem_toArray, List.getElem_cons_succ, List.getElem_cons_zero]; first | (go_simp; with_reducible rfl) | (go_simp; done) | rfl)
              simp only [List.getElem_toArray, List.getElem_cons_succ, List.getElem_cons_zero, Act.put, List.setIfInBounds_toArray, List.set_cons_zero, List.set_cons_succ]
              -- 6: Op.nilCheck (Operand.tmp 85)
              refine' anyZ_pure (i := 6) (v := _) rfl (by rfl) (by kernel_rfl) (by kernel_rfl) (by kernel_rfl) hcl6 (fun _ _ _ h => h) (Or.inl ⟨by rfl, fun w _ => ?hz7⟩) (fun _ => hHeld) (fun hcl7 => ?rz7)
              case hz7 => (simp only [List.getElem_toArray, List.getElem_cons_succ, List.getElem_cons_zero]; first | (go_simp; with_reducible rfl) | (go_simp; done) | rfl)
              simp only [List.getElem_toArray, List.getElem_cons_succ, List.getElem_cons_zero, Act.put, List.setIfInBounds_toArray, List.set_cons_zero, List.set_cons_succ]
              -- 7: Op.fieldAddr 57 (Operand.tmp 86) 6
              refine' anyZ_pure (i := 7) (v := _) rfl (by rfl) (by kernel_rfl) (by kernel_rfl) (by kernel_rfl) hcl7 (fun _ _ _ h => h) (Or.inl ⟨by rfl, fun w _ => ?hz8⟩) (fun _ => hHeld) (fun hcl8 => ?rz8)
              case hz8 => (simp only [List.getElem_toArray, List.getElem_cons_succ, List.getElem_cons_zero]; first | (go_simp; with_reducible rfl) | (go_simp; done) | rfl)
              simp only [List.getElem_toArray, List.getElem_cons_succ, List.getElem_cons_zero, Act.put, List.setIfInBounds_toArray, List.set_cons_zero, List.set_cons_succ]
              -- 8: Op.load 55 (Operand.tmp 87)
              refine' anyZ_take (i := 8) (v := _) rfl (by rfl) (by kernel_rfl) (by kernel_rfl) (by kernel_rfl) hcl8 15 (by kernel_rfl) (by kernel_rfl) (fun _ _ _ h => h) (Or.inl ⟨by rfl, fun w hSw => ?hz9⟩) hHeld (fun hcl9 => ?rz9)
              case hz9 => (simp only [List.getElem_toArray, List.getElem_cons_succ, List.getElem_cons_zero]; have hS1 := hSw; first | (go_simp; with_reducible rfl) | (go_simp; done) | rfl)
              simp only [List.getElem_toArray, List.getElem_cons_succ, List.getElem_cons_zero, Act.put, List.setIfInBounds_toArray, List.set_cons_zero, List.set_cons_succ]
              -- 9: Op.call { callee := Callee.builtin Builtin.len, args := #[Op
              refine' anyZ_pure (i := 9) (v := _) rfl (by rfl) (by kernel_rfl) (by kernel_rfl) (by kernel_rfl) hcl9 (fun _ _ _ h => h) (Or.inl ⟨by rfl, fun w _ => ?hz10⟩) (fun _ => hHeld) (fun hcl10 => ?rz10)
              case hz10 => (simp only [List.getElem_toArray, List.getElem_cons_succ, List.getElem_cons_zero]; first | (go_simp; with_reducible rfl) | (go_simp; done) | rfl)
              simp only [List.getElem_toArray, List.getElem_cons_succ, List.getElem_cons_zero, Act.put, List.setIfInBounds_toArray, List.set_cons_zero, List.set_cons_succ]
              -- 10: Op.binOp BinOp.sub 3 (Operand.tmp 89) (Operand.const (Value.
              refine' anyZ_pure (i := 10) (v := _) rfl (by rfl) (by kernel_rfl) (by kernel_rfl) (by kernel_rfl) hcl10 (fun _ _ _ h => h) (Or.inl ⟨by rfl, fun w _ => ?hz11⟩) (fun _ => hHeld) (fun hcl11 => ?rz11)
              case hz11 => (simp only [List.getElem_toArray, List.getElem_cons_succ, List.getElem_cons_zero]; first | (go_simp; with_reducible rfl) | (go_simp; done) | rfl)
              simp only [List.getElem_toArray, List.getElem_cons_succ, List.getElem_cons_zero, Act.put, List.setIfInBounds_toArray, List.set_cons_zero, List.set_cons_succ]
              -- 11: Op.slice 55 (Operand.tmp 84) none (some (Operand.tmp 90)) no
              refine' anyZ_pure (i := 11) (v := _) rfl (by rfl) (by kernel_rfl) (by kernel_rfl) (by kernel_rfl) hcl11 (fun _ _ _ h => h) (Or.inl ⟨by rfl, fun w _ => ?hz12⟩) (fun _ => hHeld) (fun hcl12 => ?rz12)
              case hz12 => (simp only [List.getElem_toArray, List.getElem_cons_succ, List.getElem_cons_zero]; first | (go_simp; with_reducible rfl) | (go_simp; done) | rfl)
              simp only [List.getElem_toArray, List.getElem_cons_succ, List.getElem_cons_zero, Act.put, List.setIfInBounds_toArray, List.set_cons_zero, List.set_cons_succ]
              clear hHeld
              refine anyZ_chain_at (by kernel_rfl) ?_
              simp only [List.drop_succ_cons, List.drop_zero]
              clear HSB
              go_wp2_with fail
              refine bodyPost_ret (v := .int .i64 0) (by simp [results, Tryz.results52, go_sem]) rfl ?_
              exact ⟨by rw [HV3.out]; rfl, .inl ⟨by rw [HV3.out], _, _, _, by rw [HV3.out]; exact HNZ.out⟩⟩
        · by_cases h6 : t.kind = 6
          · have HK := Lib.hid h6
            have d5 : decide ((t.kind : Int) = 5) = false := decide_eq_false (by omega)
            have b5 : ((t.kind : Int) == 5) = false := by rw [beq_eq_false_iff_ne]; omega
            have d6 : decide ((t.kind : Int) = 6) = true := decide_eq_true (by omega)
            have b6 : ((t.kind : Int) == 6) = true := beq_iff_eq.2 (by omega)
            clear h5 h6
            have HV3 : Hid (V = Nm.declare t.name t.lab st') := Lib.hid (by rw [HV2.out]; unfold Nm.post; rw [if_neg (by have := HK.out; omega), if_pos HK.out])
            clear HV2 HLN
            go_wp2_with fail
            refine (declare_any J gm N0 L I ga n mf mm wr st' c' mu ms' cv' sv' t htL (by have := HC.out; omega) HN5.out).mono ?_
            rintro e w7 ⟨rfl, hn7⟩
            have HN7 := Lib.hid (hn7.mono hc2)
            rw [← HV3.out] at hn7 ⊢
            obtain ⟨ve, vst⟩ := V
            have HN8 : Hid (VisM J gm N0 L I ga n mf mm w7 vst (c + 3 * t.count) mu ms' cv' sv') := Lib.hid (hn7.mono hc2)
            clear hn7 HN7 HN5
            go_wp2_with fail
            refine bodyPost_ret (v := .int .i64 (ve : Nat)) (by simp [results, Tryz.results52, go_sem]) rfl ?_
            refine ⟨rfl, ?_⟩
            by_cases hv : ve = 0
            · exact .inl ⟨hv, _, _, _, HN8.out⟩
            · exact .inr ⟨hv, HN8.out.holds⟩
          · have HK := Lib.hid (And.intro h5 h6)
            have d5 : decide ((t.kind : Int) = 5) = false := decide_eq_false (by omega)
            have b5 : ((t.kind : Int) == 5) = false := by rw [beq_eq_false_iff_ne]; omega
            have d6 : decide ((t.kind : Int) = 6) = false := decide_eq_false (by omega)
            have b6 : ((t.kind : Int) == 6) = false := by rw [beq_eq_false_iff_ne]; omega
            clear h5 h6
            have HV3 : Hid (V = (0, st')) := Lib.hid (by rw [HV2.out]; unfold Nm.post; rw [if_neg HK.out.1, if_neg HK.out.2])
            have HNZ := Lib.hid (HN5.out.mono (Nat.le_trans (Nat.le_add_right _ 2) hc2))
            clear HV2 HLN HN5
            go_wp2_with fail
            refine bodyPost_ret (v := .int .i64 0) (by simp [results, Tryz.results52, go_sem]) rfl ?_
            exact ⟨by rw [HV3.out]; rfl, .inl ⟨by rw [HV3.out], _, _, _, by rw [HV3.out]; exact HNZ.out⟩⟩
theorem visit_any (gm N0 : Nat) (L : List (LT Nat)) (I : Nat → Nat) (ga : Value) (n : Nat) (mf mm : Value) : ∀ (c : Nat) (t : LT Nat), t.count ≤ c → ∀ J, VisSays J gm N0 L I ga n mf mm t
  | 0, t, h => by rw [LT.count_kids t] at h; omega
  | c + 1, t, h => fun J => visit_walk J gm N0 L I ga n mf mm t fun k hk => visit_any gm N0 L I ga n mf mm c k (by have := LT.count_kid hk; have := LT.count_kids t; omega)
end Go.Proofs.YtljdphpbalioaaaGreatDoor
