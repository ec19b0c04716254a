/- Walk: the nodes get their numbers. -/
import Derived.Test.YtljdphpbalioaaaGreatDoorGnM
namespace Go.Proofs.YtljdphpbalioaaaGreatDoor
open Go.RowKit

structure NumM (w : World) (gm N0 : Nat) (L : List (LT Nat)) (ga mf mm cv uv sv : Value) (I : Nat → Nat) (n : Nat) : Prop where
  mem : MemT w N0 L I (fun _ => 0) (fun _ => .slice none 0 0)
  box : BoxM w gm ga n mf mm cv uv sv
  low : N0 ≤ gm
def NumSays (gm N0 : Nat) (L : List (LT Nat)) (ga mf mm cv uv sv : Value) (t : LT Nat) : Prop :=
  ∀ (w : World) (I : Nat → Nat) (n : Nat), (∀ a ∈ t.nodes, a ∈ L) → NumM w gm N0 L ga mf mm cv uv sv I n → n + t.count ≤ 9000000000000000000 →
    Calls Tryz.prog 15 #[.pointer (some ⟨gm, 0, none⟩), ptrG t.lab] w fun e w' => e = .returned (.tuple #[]) ∧ NumM w' gm N0 L ga mf mm cv uv sv (Nm.numT I n t).1 (Nm.numT I n t).2 ∧ Only w w' (fun k => k = gm ∨ Lb L k)

set_option linter.unusedSimpArgs false in
set_option maxRecDepth 20000 in
set_option maxHeartbeats 1600000 in
theorem num_walk (gm N0 : Nat) (L : List (LT Nat)) (ga mf mm cv uv sv : Value) (t : LT Nat) (hih : ∀ k ∈ t.kids, NumSays gm N0 L ga mf mm cv uv sv k) : NumSays gm N0 L ga mf mm cv uv sv t := by
  intro w I n hsub h hn
  have htL : t ∈ L := hsub t (LT.nodes_self t)
  have HKS : Hid (∀ k ∈ t.kids, ∀ a ∈ k.nodes, a ∈ L) := Lib.hid (fun k hk a ha => hsub a (LT.nodes_kid hk ha))
  have HIH := Lib.hid hih
  have HNT : Hid (Nm.numT I n t = Nm.numL (updF I t.lab n) (n + 1) t.kids) := Lib.hid (by cases t; rfl)
  obtain ⟨R, hR⟩ : ∃ R, R = Nm.numT I n t := ⟨_, rfl⟩
  rw [← hR] at HNT ⊢
  have hcount := LT.count_kids t
  obtain ⟨q, c, hrow, hkids⟩ := h.mem.kids htL
  have hltt := (h.mem t htL).lt
  have hgm : ¬ gm = t.lab := fun e => by have := h.low; omega
  have g9 := cell_of_row w t.lab 9 _ _ _ hrow
  replace g9 : w.cell? ⟨t.lab, 9, none⟩ = some (.int .u64 (I t.lab : Nat)) := g9
  have gf := fun i => frozen_of_row w t.lab i _ _ hrow
  have m1 := cell_of_row w gm 1 _ _ _ h.box
  replace m1 : w.cell? ⟨gm, 1, none⟩ = some (.int .u64 n) := m1
  have ho1 : Only w (w.setCell ⟨t.lab, 9, none⟩ (.int .u64 n)) (fun k => k = t.lab) := Only.setCell w ⟨t.lab, 9, none⟩ _
  have hm1 := h.mem.id htL n
  have hb1 := h.box.only ho1 hgm
  have hfew : t.kids.length ≤ 9000000000000000000 := by
    have : ∀ l : List (LT Nat), l.length ≤ LT.countL l := fun l => by
      induction l with
      | nil => exact Nat.le_refl _
      | cons t r ih => unfold LT.countL; rw [LT.count_kids t, List.length_cons]; omega
    have := this t.kids
    omega
  have HLOW := Lib.hid h.low
  have HM0 := Lib.hid h.mem
  have HCNT : Hid (n + 1 + LT.countL t.kids ≤ 9000000000000000000) := Lib.hid (by omega)
  clear hih hsub hR hcount h
  go_enter Tryz.func15, Tryz.ntmps15
  unfold ptrG
  go_upto_region 1 with fail
  obtain ⟨w1, hw1⟩ : ∃ w1, w1 = w.setCell ⟨t.lab, 9, none⟩ (.int .u64 n) := ⟨_, rfl⟩
  rw [← hw1] at hm1 ho1 hb1 ⊢
  have HSET := Lib.hid hw1
  clear hw1
  have HM1 := Lib.hid hm1
  have HO1 : Hid (Only w w1 (fun k => k = gm ∨ Lb L k)) := Lib.hid (ho1.mono fun k _ e => .inr ⟨t, htL, e.symm⟩)
  clear hm1 ho1 g9 gf m1
  have m1 := cell_of_row w1 gm 1 _ _ _ hb1
  replace m1 : w1.cell? ⟨gm, 1, none⟩ = some (.int .u64 n) := m1
  have mfz := fun i => frozen_of_row w1 gm i _ _ hb1
  have hw2 : IntKind.u64.wrap ((n : Int) + 1) = ((n + 1 : Nat) : Int) := by rw [IntKind.wrap_u64]; have := HCNT.out; omega
  have hb2 : BoxM (w1.setCell ⟨gm, 1, none⟩ (.int .u64 ((n + 1 : Nat) : Int))) gm ga (n + 1) mf mm cv uv sv := heap_setCell_same w1 gm 1 _ _ _ hb1
  have ho2 : Only w1 (w1.setCell ⟨gm, 1, none⟩ (.int .u64 ((n + 1 : Nat) : Int))) (fun k => k = gm) := Only.setCell w1 ⟨gm, 1, none⟩ _
  have hm2 := HM1.out.only ho2 (fun k hk e => by have := HLOW.out; omega)
  clear hb1
  have HRC : Hid (∀ (w' : World) j k, Only w w' (fun k => k = gm ∨ Lb L k) → t.kids[j]? = some k → ∃ b, q = some ⟨b, 0, none⟩ ∧ w'.cell? ⟨b, j, none⟩ = some (ptrG k.lab)) := Lib.hid (fun w' j k ho hk => by
    rcases hkids with hz | ⟨b, rfl, hbN, ⟨cs, hcs⟩, hcell⟩
    · rw [hz] at hk; cases hk
    · refine ⟨b, rfl, ?_⟩
      have h1 := hcell j k hk
      have h2 := ho.block b (block_lt_of_cell h1) (fun e => by
        rcases e with e | ⟨a, ha, e⟩
        · have := HLOW.out; omega
        · obtain ⟨kv, h3⟩ := HM0.out.row ha
          rw [e, hcs] at h3
          cases h3)
      unfold World.cell? at h1 ⊢
      rw [h2]
      exact h1)
  have hrow2 : w1.heap[t.lab]? = some (.cells (rowN t 0 n (.slice none 0 0) (.slice q t.kids.length c)) 75 (0, 0)) := by
    rw [HSET.out]
    exact heap_setCell_same w t.lab 9 _ _ _ hrow
  have g8 : (w1.setCell ⟨gm, 1, none⟩ (.int .u64 ((n + 1 : Nat) : Int))).cell? ⟨t.lab, 8, none⟩ = some (.slice q t.kids.length c) := cell_of_row _ t.lab 8 _ _ _ ((ho2.block t.lab (Array.getElem?_eq_some_iff.1 hrow2).1 (fun e => hgm e.symm)).trans hrow2)
  have HN2 : Hid (NumM (w1.setCell ⟨gm, 1, none⟩ (.int .u64 ((n + 1 : Nat) : Int))) gm N0 L ga mf mm cv uv sv (updF I t.lab n) (n + 1)) := Lib.hid ⟨hm2, hb2, HLOW.out⟩
  have HO2 := Lib.hid (HO1.out.trans ho2 fun _ _ e => .inl e)
  clear hkids hrow hb2 ho2 hm2 hrow2 HO1 HM1 HM0 HSET
  go_upto_region 2 with fail
  try rw [show ((n : Int) + 1) = ((n + 1 : Nat) : Int) from rfl]
  generalize w1.setCell ⟨gm, 1, none⟩ (.int .u64 ((n + 1 : Nat) : Int)) = w2 at *
  obtain ⟨M, hM⟩ : ∃ M, M = t.kids.length := ⟨_, rfl⟩
  rw [← hM] at g8 hfew
  have HMM := Lib.hid hM
  clear m1 mfz hw2 hM hgm
  go_wp2_with fail
  go_loopw [5, 25] (fun _ i wr => ∃ (j : Nat) (I' : Nat → Nat) (n' : Nat), j ≤ M ∧ i = .int .i64 j ∧ Hid (Nm.numL I' n' (t.kids.drop j) = R) ∧ Hid (n' + LT.countL (t.kids.drop j) ≤ 9000000000000000000) ∧ Hid (NumM wr gm N0 L ga mf mm cv uv sv I' n') ∧ Hid (Only w wr (fun k => k = gm ∨ Lb L k))) (fun _ i _ => M - (intOf i).toNat)
  case atStart => exact ⟨0, _, n + 1, by omega, rfl, Lib.hid (by rw [List.drop_zero]; exact HNT.out.symm), Lib.hid (by rw [List.drop_zero]; exact HCNT.out), HN2, HO2⟩
  case round =>
    clear HN2 HO2 HNT HCNT g8
    obtain ⟨j, I', n', hj, rfl, hrd, hcn, hns, hon⟩ := hrel
    rename World => wr
    by_cases hlt : j < M
    · have d1 : decide ((j : Int) < (M : Int)) = true := decide_eq_true (by omega)
      have d1n : decide (j < M) = true := decide_eq_true hlt
      have hjl : j < t.kids.length := by rw [← HMM.out]; exact hlt
      obtain ⟨k, hk⟩ : ∃ k, t.kids[j]? = some k := ⟨_, List.getElem?_eq_getElem hjl⟩
      have hkm : k ∈ t.kids := List.mem_of_getElem? hk
      have hdr : t.kids.drop j = k :: t.kids.drop (j + 1) := by
        rw [List.drop_eq_getElem_cons hjl]
        rw [List.getElem?_eq_getElem hjl] at hk
        rw [Option.some.inj hk]
      obtain ⟨b, rfl, hcell⟩ := HRC.out wr j k hon.out hk
      have k1 : (0 : Int) ≤ (j : Int) := by omega
      have k2 : (j : Int) < (M : Int) := by omega
      have HIK := Lib.hid (HIH.out k hkm)
      have HSK := Lib.hid (HKS.out k hkm)
      have HRD : Hid (Nm.numL (Nm.numT I' n' k).1 (Nm.numT I' n' k).2 (t.kids.drop (j + 1)) = R) := Lib.hid (by rw [← hrd.out, hdr]; rfl)
      have HCN : Hid (n' + k.count + LT.countL (t.kids.drop (j + 1)) ≤ 9000000000000000000) := Lib.hid (by have := hcn.out; rw [hdr] at this; unfold LT.countL at this; omega)
      unfold ptrG at hcell
      clear hk hkm hdr hrd hcn hjl
      go_wp2_with fail
      refine (HIK.out wr I' n' HSK.out hns.out (by have := HCN.out; omega)).mono ?_
      rintro e w3 ⟨rfl, hn3, ho3⟩
      have HN3 := Lib.hid hn3
      have HO3 := Lib.hid (hon.out.trans ho3 fun _ _ h => h)
      have HC3 : Hid ((Nm.numT I' n' k).2 + LT.countL (t.kids.drop (j + 1)) ≤ 9000000000000000000) := Lib.hid (by rw [numT_next]; exact HCN.out)
      clear hn3 ho3 hns hon hcell
      go_wp2_with fail
      go_roundw
      case rel =>
        (repeat apply Exists.intro)
        exact ⟨⟨j + 1, _, _, by omega, by go_num, HRD, HC3, HN3, HO3⟩, rfl⟩
      case measure => simp [intOf]; omega
    · have d1 : decide ((j : Int) < (M : Int)) = false := decide_eq_false (by omega)
      have d1n : decide (j < M) = false := decide_eq_false hlt
      have HRE : Hid (R = (I', n')) := Lib.hid (by rw [← hrd.out, List.drop_eq_nil_of_le (by rw [← HMM.out]; omega)]; rfl)
      have HNS := hns
      have HON := hon
      clear hrd hcn hns hon
      go_wp2_with fail
      refine bodyPost_end (results_none rfl _ _ _) rfl ?_
      exact ⟨rfl, by rw [HRE.out]; exact HNS.out, HON.out⟩
theorem num_any (gm N0 : Nat) (L : List (LT Nat)) (ga mf mm cv uv sv : Value) : ∀ (c : Nat) (t : LT Nat), t.count ≤ c → NumSays gm N0 L ga mf mm cv uv sv t
  | 0, t, h => by rw [LT.count_kids t] at h; omega
  | c + 1, t, h => num_walk gm N0 L ga mf mm cv uv sv t fun k hk => num_any gm N0 L ga mf mm cv uv sv c k (by have := LT.count_kid hk; have := LT.count_kids t; omega)
end Go.Proofs.YtljdphpbalioaaaGreatDoor
