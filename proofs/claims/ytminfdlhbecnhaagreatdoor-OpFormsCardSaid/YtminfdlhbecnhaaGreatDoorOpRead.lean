/- Walk: a line is read. -/
import Derived.Test.YtminfdlhbecnhaaGreatDoorLaysR
import Derived.Test.YtminfdlhbecnhaaGreatDoorOrdG
import Derived.Test.YtminfdlhbecnhaaGreatDoorOpRRight
namespace Go.Proofs.YtminfdlhbecnhaaGreatDoor
open Go.RowKit

/-- strings that lie in the block n -/
def StrsV (w : World) (n : Nat) (v : Value) (ls : List (List UInt8)) : Prop :=
  ∃ a c, v = .slice a ls.length c ∧ ls.length ≤ c ∧ c ≤ 1000000000000 ∧ (ls = [] ∨ ∃ o, a = some ⟨n, o, none⟩ ∧ ∀ (j : Nat) x, ls[j]? = some x → w.cell? ⟨n, o + j, none⟩ = some (.string (mk8 x)))
theorem only_cell {w w' : World} {S : Nat → Prop} {p : Addr} (h : Only w w' S) (hp : p.block < w.heap.size) (hs : ¬ S p.block) : w'.cell? p = w.cell? p := by
  unfold World.cell?
  rw [h.block p.block hp hs]

theorem StrsV.only {w w' : World} {n : Nat} {v : Value} {ls : List (List UInt8)} {S : Nat → Prop} (h : StrsV w n v ls) (ho : Only w w' S) (hs : ¬ S n) : StrsV w' n v ls := by
  obtain ⟨a, c, rfl, h1, h2, h3⟩ := h
  refine ⟨a, c, rfl, h1, h2, ?_⟩
  rcases h3 with h3 | ⟨o, ha, h3⟩
  · exact .inl h3
  · refine .inr ⟨o, ha, fun j x hx => ?_⟩
    have hc := h3 j x hx
    exact (only_cell (p := ⟨n, o + j, none⟩) ho (block_lt_of_cell hc) hs).trans hc
theorem StrsV.below {w w' : World} {n : Nat} {v : Value} {ls : List (List UInt8)} (h : StrsV w n v ls) (hb : Below w.heap.size w w') : StrsV w' n v ls := h.only (Only.of_below hb fun _ => False) id

theorem StrsV.suffix {w : World} {n m c : Nat} {a : Option Addr} {ls : List (List UInt8)} (h : StrsV w n (.slice a m c) ls) (k : Nat) (hk : k ≤ ls.length) : StrsV w n (.slice (if c = k then a else a.map (·.add k)) (m - k) (c - k)) (ls.drop k) := by
  obtain ⟨a2, c2, e2, h1, h2, h3⟩ := h
  cases e2
  refine ⟨_, _, by rw [List.length_drop], by rw [List.length_drop]; omega, by omega, ?_⟩
  by_cases hr : ls.drop k = []
  · exact .inl hr
  · have hlt : k < ls.length := by
      rcases Nat.lt_or_ge k ls.length with h | h
      · exact h
      · exact absurd (List.drop_eq_nil_of_le h) hr
    rcases h3 with h3 | ⟨o, ha, h3⟩
    · rw [h3] at hlt; simp at hlt
    · refine .inr ⟨o + k, ?_, fun j y hy => ?_⟩
      · rw [if_neg (by omega), ha, Option.map_some, Addr.add_mid]
      · rw [List.getElem?_drop] at hy
        rw [show o + k + j = o + (k + j) by omega]
        exact h3 (k + j) y hy

theorem run_suffix_str {P : Program} {w : World} {n m c : Nat} {a : Option Addr} {ls : List (List UInt8)} (h : StrsV w n (.slice a m c) ls) (k t e : Nat) (hk : k ≤ ls.length) (T : RowTy P t e 1 16) :
    ∃ A N C, (∀ w', (Instr.slice t (.slice a m c) (some (.int .i64 k)) none none).run P w' = .ok (.slice A N C) w') ∧ (∀ W, StrsV W n (.slice a m c) ls → StrsV W n (.slice A N C) (ls.drop k)) ∧ N = ls.length - k := by
  obtain ⟨a', c', e1, h1, h2, _⟩ := h
  cases e1
  refine ⟨_, _, _, fun w' => ?_, fun W hW => StrsV.suffix hW k hk, rfl⟩
  obtain ⟨i, z, hi, hz, hsz, hby, hzs⟩ := T.ex
  have hb : (sizeOf e).run P w' = .ok 1 w' := by simp [sizeOf, typeInfo, hi, hsz]
  have hkn : (k : Int) ≤ (ls.length : Nat) := by omega
  simp [Instr.slice, run_underlying T.ht, Instr.sliceBounds, run_sliceBound, hb, hkn]

theorem run_tail {P : Program} {w : World} {n m c : Nat} {a : Option Addr} {x : List UInt8} {r : List (List UInt8)} (h : StrsV w n (.slice a m c) (x :: r)) (t e : Nat) (T : RowTy P t e 1 16) :
    ∃ A N C, (∀ w', (Instr.slice t (.slice a m c) (some (.int .i64 1)) none none).run P w' = .ok (.slice A N C) w') ∧ (∀ W, StrsV W n (.slice a m c) (x :: r) → StrsV W n (.slice A N C) r) ∧ N = r.length := by
  obtain ⟨A, N, C, h1, h2, h3⟩ := run_suffix_str h 1 t e (by simp) T
  exact ⟨A, N, C, h1, h2, by rw [h3]; simp⟩

theorem rowStr' : RowTy Tryz.prog 57 9 1 16 := RowTy.mk' (z := .string ByteArray.empty) Tryz.underlying57 (by kernel_rfl) rfl (by omega)

set_option maxRecDepth 100000 in
theorem nx_any (want : Bool) (n b : Nat) (v : Value) (ls : List (List UInt8)) (w : World) (hr : w.heap[b]? = some (.cells #[v] 57 (0, 0))) (hs : StrsV w n v ls) (hne : n ≠ b) :
    Calls Tryz.prog 37 #[.bool want, .pointer (some ⟨b, 0, none⟩)] w fun e w' => e = .returned (.string (mk8 (nxS want ls))) ∧ (∃ v', w'.heap[b]? = some (.cells #[v'] 57 (0, 0)) ∧ StrsV w' n v' (nxR want ls)) ∧ Only w w' (fun k => k = b) := by
  have HR := Lib.hid hr
  have HS := Lib.hid hs
  have c0 := cell_of_row w b 0 _ _ _ hr
  have f0 : w.frozen? ⟨b, 0, none⟩ = false := free_of_one hr
  cases want with
  | false =>
    clear hs hr
    go_enter Tryz.func37, Tryz.ntmps37
    go_wp2_with fail
    go_ret
    exact ⟨rfl, ⟨v, HR.out, HS.out⟩, Only.refl _ _⟩
  | true =>
    obtain ⟨a, c, rfl, h1, h2, h3⟩ := hs
    cases ls with
    | nil =>
      clear hr h1 h2 h3
      go_enter Tryz.func37, Tryz.ntmps37
      go_wp2_with fail
      go_ret
      exact ⟨rfl, ⟨_, HR.out, HS.out⟩, Only.refl _ _⟩
    | cons x r =>
      rcases h3 with h3 | ⟨o, rfl, h3⟩
      · cases h3
      have cx := h3 0 x rfl
      rw [Nat.add_zero] at cx
      obtain ⟨A, N, C, hrun, hst, rfl⟩ := run_tail HS.out 57 9 rowStr'
      have HST := Lib.hid hst
      obtain ⟨m, hm⟩ : ∃ m, m = (x :: r).length := ⟨_, rfl⟩
      have hm1 : 0 < m := by rw [hm]; simp
      have hm2 : decide ((m : Int) = 0) = false := decide_eq_false (by omega)
      have hm3 : ((m : Int) == 0) = false := hm2
      rw [← hm] at c0 hrun h1
      have HM := Lib.hid hm
      clear hr h3 hst hm
      go_enter Tryz.func37, Tryz.ntmps37
      go_wp2_with fail
      go_ret
      refine ⟨rfl, ⟨_, one_setCell HR.out, ?_⟩, Only.setCell _ _ _⟩
      have hs2 := HST.out w HS.out
      exact hs2.only (Only.setCell w ⟨b, 0, none⟩ _) hne

theorem cut_mem (l : List UInt8) : ∀ p ∈ cutSp l, p.length ≤ l.length := by
  induction l with
  | nil => intro p hp; simp [cutSp] at hp; rw [hp]; simp
  | cons b l ih =>
    intro p hp
    unfold cutSp at hp
    split at hp
    · rcases List.mem_cons.1 hp with rfl | hp
      · simp
      · have := ih p hp; rw [List.length_cons]; omega
    · split at hp
      · simp at hp; rw [hp]; simp
      · next x r hx =>
        rcases List.mem_cons.1 hp with rfl | hp
        · have := ih x (by rw [hx]; simp); rw [List.length_cons, List.length_cons]; omega
        · have := ih p (by rw [hx]; simp [hp]); rw [List.length_cons]; omega
theorem cut_len (l : List UInt8) : (cutSp l).length ≤ l.length + 1 := by
  induction l with
  | nil => simp [cutSp]
  | cons b l ih =>
    unfold cutSp
    split
    · rw [List.length_cons, List.length_cons]; omega
    · split
      · simp
      · next x r hx => rw [hx] at ih; rw [List.length_cons] at ih ⊢; rw [List.length_cons]; omega
theorem nxS_len {want : Bool} {r : List (List UInt8)} {m : Nat} (h : ∀ p ∈ r, p.length ≤ m) : (nxS want r).length ≤ m := by
  unfold nxS
  cases want
  · simp
  · cases r with
    | nil => simp
    | cons x r => exact h x (by simp)
theorem nxR_mem {want : Bool} {r : List (List UInt8)} {m : Nat} (h : ∀ p ∈ r, p.length ≤ m) : ∀ p ∈ nxR want r, p.length ≤ m := by
  unfold nxR
  cases want
  · exact h
  · intro p hp; exact h p (List.mem_of_mem_tail hp)
theorem line_lens (l : List UInt8) : (lineA l).length ≤ l.length ∧ (lineB l).length ≤ l.length ∧ (lineN l).length ≤ l.length := by
  have h0 : ∀ p ∈ (cutSp l).tail, p.length ≤ l.length := fun p hp => cut_mem l p (List.mem_of_mem_tail hp)
  have h1 : ∀ p ∈ lineR1 l, p.length ≤ l.length := nxR_mem h0
  have h2 : ∀ p ∈ lineR2 l, p.length ≤ l.length := nxR_mem h1
  exact ⟨nxS_len h0, nxS_len h1, nxS_len h2⟩

/-- while a line is read: what lies where -/
structure RdSt (w w' : World) (n b2 b4 b5 K : Nat) (v : Value) (ls : List (List UInt8)) : Prop where
  r2 : w'.heap[b2]? = some (.cells #[.int .u8 0, .int .u64 0, .int .u64 0, .string ⟨#[]⟩] 25 (0, 0))
  r4 : w'.heap[b4]? = some (.cells #[v] 57 (0, 0))
  r5 : w'.heap[b5]? = some (.cells #[.int .u8 K, .int .u64 0, .int .u64 0, .string ⟨#[]⟩] 25 (0, 0))
  ss : StrsV w' n v ls
  bl : Below w.heap.size w w'
theorem RdSt.below {w w' w'' : World} {n b2 b4 b5 K : Nat} {v : Value} {ls : List (List UInt8)} (h : RdSt w w' n b2 b4 b5 K v ls) (hb : Below w'.heap.size w' w'') : RdSt w w'' n b2 b4 b5 K v ls :=
  ⟨(hb.block b2 (Array.getElem?_eq_some_iff.1 h.r2).1).trans h.r2, (hb.block b4 (Array.getElem?_eq_some_iff.1 h.r4).1).trans h.r4, (hb.block b5 (Array.getElem?_eq_some_iff.1 h.r5).1).trans h.r5, h.ss.below hb, btr h.bl hb⟩
/-- the places are others -/
structure RdNe (w : World) (n b2 b4 b5 : Nat) : Prop where
  a : b2 ≠ b4
  b : b2 ≠ b5
  c : b4 ≠ b5
  d : n ≠ b4
  e : n ≠ b5
  f : w.heap.size ≤ b2 ∧ w.heap.size ≤ b4 ∧ w.heap.size ≤ b5
theorem RdSt.kind {w w' : World} {n b2 b4 b5 K : Nat} {v : Value} {ls : List (List UInt8)} (h : RdSt w w' n b2 b4 b5 K v ls) (hn : RdNe w n b2 b4 b5) (k : Nat) : RdSt w (w'.setCell ⟨b5, 0, none⟩ (.int .u8 k)) n b2 b4 b5 k v ls := by
  have ho := Only.setCell w' ⟨b5, 0, none⟩ (.int .u8 (k : Int))
  exact ⟨(ho.block b2 (Array.getElem?_eq_some_iff.1 h.r2).1 hn.b).trans h.r2, (ho.block b4 (Array.getElem?_eq_some_iff.1 h.r4).1 hn.c).trans h.r4, heap_setCell_same w' b5 0 _ _ _ h.r5, h.ss.only ho hn.e, h.bl.setCell hn.f.2.2 _⟩
theorem RdSt.box {w w' w'' : World} {n b2 b4 b5 K : Nat} {v v' : Value} {ls ls' : List (List UInt8)} (h : RdSt w w' n b2 b4 b5 K v ls) (hn : RdNe w n b2 b4 b5) (ho : Only w' w'' (fun k => k = b4))
    (hr : w''.heap[b4]? = some (.cells #[v'] 57 (0, 0))) (hs : StrsV w'' n v' ls') : RdSt w w'' n b2 b4 b5 K v' ls' :=
  ⟨(ho.block b2 (Array.getElem?_eq_some_iff.1 h.r2).1 hn.a).trans h.r2, hr, (ho.block b5 (Array.getElem?_eq_some_iff.1 h.r5).1 (fun e => hn.c e.symm)).trans h.r5, hs,
    h.bl.trans (ho.below w.heap.size h.bl.size fun k _ e => by have := hn.f.2.1; omega)⟩

theorem op_stored {w w' : World} {b : Nat} (v0 v1 v2 v3 : Value) {x y z u : Value} (hr : w'.heap[b]? = some (.cells #[x, y, z, u] 25 (0, 0))) (hb : Below w.heap.size w w') (hB : w.heap.size ≤ b) :
    ((((w'.setCell ⟨b, 0, none⟩ v0).setCell ⟨b, 1, none⟩ v1).setCell ⟨b, 2, none⟩ v2).setCell ⟨b, 3, none⟩ v3).heap[b]? = some (.cells #[v0, v1, v2, v3] 25 (0, 0)) ∧
    Below w.heap.size w ((((w'.setCell ⟨b, 0, none⟩ v0).setCell ⟨b, 1, none⟩ v1).setCell ⟨b, 2, none⟩ v2).setCell ⟨b, 3, none⟩ v3) :=
  ⟨heap_setCell_same _ b 3 _ _ v3 (heap_setCell_same _ b 2 _ _ v2 (heap_setCell_same _ b 1 _ _ v1 (heap_setCell_same w' b 0 _ _ v0 hr))), (((hb.setCell hB _).setCell hB _).setCell hB _).setCell hB _⟩

/-- what Read tells -/
def ReadSays (w : World) (l : List UInt8) (e : Ending) (w' : World) : Prop :=
  ((∃ k a b nm, LineOf l k a b nm ∧ e = .returned (.tuple #[.agg #[.int .u8 k, .int .u64 a, .int .u64 b, .string nm], .int .i64 0])) ∨
    ((∀ k a b nm, ¬ LineOf l k a b nm) ∧ e = .returned (.tuple #[.agg #[.int .u8 0, .int .u64 0, .int .u64 0, .string ByteArray.empty], .int .i64 20]))) ∧ Below w.heap.size w w'

set_option linter.unusedSimpArgs false in
set_option maxRecDepth 100000 in
set_option maxHeartbeats 3200000 in
theorem oread_any (s : ByteArray) (hs : s.size ≤ 1000000) (w : World) (ht : Tabs w) (hv : RdVars w) : Calls Tryz.prog 13 #[.string s] w (ReadSays w s.data.toList) := by
  have HT := Lib.hid ht
  have HV := Lib.hid hv
  clear ht hv
  go_enter Tryz.func13, Tryz.ntmps13
  go_upto_region 1 with fail
  have hb1 := bal (bre w) (.cells #[.int .u8 0, .int .u64 0, .int .u64 0, .string ⟨#[]⟩] 25)
  have hr1 := heap_alloc_new w (.cells #[.int .u8 0, .int .u64 0, .int .u64 0, .string ⟨#[]⟩] 25)
  generalize w.alloc (.cells #[.int .u8 0, .int .u64 0, .int .u64 0, .string ⟨#[]⟩] 25) = w1 at *
  obtain ⟨b2, hb2⟩ : ∃ n, n = w.heap.size := ⟨_, rfl⟩
  rw [← hb2] at hr1 ⊢
  have HB1 := Lib.hid hb1
  have HR1 := Lib.hid hr1
  have HN2 := Lib.hid hb2
  clear hb1 hr1 hb2
  go_wp2_with fail
  refine (split_any s w1 (HV.out.below HB1.out) (by omega)).mono ?_
  rintro e w2 ⟨rfl, rfl⟩
  have hne := cutSp_ne s.data.toList
  have hcl := cut_len s.data.toList
  rw [str_len] at hcl
  have hb2 := bal (bre w1) (.cells ((cutSp s.data.toList).map strV).toArray 9)
  have hr2 := heap_alloc_new w1 (.cells ((cutSp s.data.toList).map strV).toArray 9)
  generalize w1.alloc (.cells ((cutSp s.data.toList).map strV).toArray 9) = w2 at *
  obtain ⟨n, hn⟩ : ∃ n, n = w1.heap.size := ⟨_, rfl⟩
  rw [← hn] at hr2 ⊢
  obtain ⟨L, hL⟩ : ∃ L, L = cutSp s.data.toList := ⟨_, rfl⟩
  rw [← hL] at hr2 hne hcl ⊢
  have hs2 : StrsV w2 n (.slice (some ⟨n, 0, none⟩) L.length L.length) L := ⟨_, _, rfl, Nat.le_refl _, by omega, .inr ⟨0, rfl, fun j x hx => by
    have hj := (List.getElem?_eq_some_iff.1 hx).1
    rw [Nat.zero_add, strs_cell hr2 j hj, strV_mk, List.getD_eq_getElem?_getD, hx]
    rfl⟩⟩
  obtain ⟨x0, R, hLR⟩ := List.exists_cons_of_ne_nil hne
  have HL := Lib.hid hL
  have HN := Lib.hid hn
  have HB2 := Lib.hid (btr HB1.out hb2)
  have HR2 : Hid (w2.heap[b2]? = _) := Lib.hid ((hb2.block b2 (Array.getElem?_eq_some_iff.1 HR1.out).1).trans HR1.out)
  have HS2 := Lib.hid hs2
  have HSZ1 : Hid (b2 < w1.heap.size) := Lib.hid (Array.getElem?_eq_some_iff.1 HR1.out).1
  have HSZ2 : Hid (n < w2.heap.size) := Lib.hid (Array.getElem?_eq_some_iff.1 hr2).1
  obtain ⟨m, hm⟩ : ∃ m, m = L.length := ⟨_, rfl⟩
  rw [← hm] at hcl hs2 HS2 ⊢
  have HM := Lib.hid hm
  clear hne hb2 hr2 hs2 hL hn hm HR1 HB1
  go_upto_block 1 with fail
  have h4 : ((w2.alloc (.cells #[.slice (some ⟨n, 0, none⟩) m m] 57)).alloc (.cells #[.int .u8 0, .int .u64 0, .int .u64 0, .string ⟨#[]⟩] 25)).heap[w2.heap.size]? = some (.cells #[.slice (some ⟨n, 0, none⟩) m m] 57) := by
    rw [Below.heap_alloc _ _ _ (by simp)]
    exact heap_alloc_new w2 _
  have h5 : ((w2.alloc (.cells #[.slice (some ⟨n, 0, none⟩) m m] 57)).alloc (.cells #[.int .u8 0, .int .u64 0, .int .u64 0, .string ⟨#[]⟩] 25)).heap[w2.heap.size + 1]? = some (.cells #[.int .u8 0, .int .u64 0, .int .u64 0, .string ⟨#[]⟩] 25) := by
    have h1 := heap_alloc_new (w2.alloc (.cells #[.slice (some ⟨n, 0, none⟩) m m] 57)) (.cells #[.int .u8 0, .int .u64 0, .int .u64 0, .string ⟨#[]⟩] 25)
    simpa using h1
  have hb3 := bal (bal (bre w2) (.cells #[.slice (some ⟨n, 0, none⟩) m m] 57)) (.cells #[.int .u8 0, .int .u64 0, .int .u64 0, .string ⟨#[]⟩] 25)
  generalize (w2.alloc (.cells #[.slice (some ⟨n, 0, none⟩) m m] 57)).alloc (.cells #[.int .u8 0, .int .u64 0, .int .u64 0, .string ⟨#[]⟩] 25) = w3 at *
  obtain ⟨b4, hb4⟩ : ∃ n, n = w2.heap.size := ⟨_, rfl⟩
  obtain ⟨b5, hb5⟩ : ∃ n, n = w2.heap.size + 1 := ⟨_, rfl⟩
  rw [← hb5] at h5 ⊢
  rw [← hb4] at h4 ⊢
  have HNE : Hid (RdNe w n b2 b4 b5) := Lib.hid (by
    have h1 := HSZ1.out
    have h2 := HSZ2.out
    have h3 := HN2.out
    have h6 := HN.out
    have h7 := HB2.out.size
    exact ⟨by omega, by omega, by omega, by omega, by omega, by omega, by omega, by omega⟩)
  have HST : Hid (RdSt w w3 n b2 b4 b5 0 (.slice (some ⟨n, 0, none⟩) m m) L) := Lib.hid ⟨(hb3.block b2 (Array.getElem?_eq_some_iff.1 HR2.out).1).trans HR2.out, h4, h5, HS2.out.below hb3, btr HB2.out hb3⟩
  clear h4 h5 hb3 hb4 hb5 HR2 HS2 HB2 HSZ1 HSZ2 HN HN2
  have hxs : x0.length ≤ 1000000 := by
    have := cut_mem s.data.toList x0 (by rw [← HL.out, hLR]; simp)
    rw [str_len] at this
    omega
  go_loopw [6] (fun t wr => ∃ k : Nat, 1 ≤ k ∧ k ≤ 15 ∧ t = .int .u8 k ∧ Hid (RdSt w wr n b2 b4 b5 (kfound x0 (k - 1)) (.slice (some ⟨n, 0, none⟩) m m) L)) (fun t _ => 15 - (intOf t).toNat)
  case atStart => exact ⟨1, by omega, by omega, rfl, HST⟩
  case round =>
    obtain ⟨k, hk1, hk15, rfl, hst⟩ := hrel
    by_cases hlt : k ≤ 14
    · have d1 : decide ((k : Int) ≤ 14) = true := decide_eq_true (by omega)
      have d1n : decide (k ≤ 14) = true := decide_eq_true hlt
      have hw1 : IntKind.u8.wrap ((k : Int) + 1) = (k : Int) + 1 := by rw [IntKind.wrap_u8]; omega
      have HWD : Hid (∀ w', Below wr.heap.size wr w' → Calls Tryz.prog 18 #[.int .u8 k] w' fun e w'' => e = .returned (strV (wordOf k)) ∧ Below w'.heap.size w' w'') := Lib.hid fun w' hb => word_any k (by omega) w' (HT.out.below (btr hst.out.bl hb)).sp
      have HS : Hid (∀ w', Below wr.heap.size wr w' → w'.cell? ⟨b4, 0, none⟩ = some (.slice (some ⟨n, 0, none⟩) m m) ∧ w'.cell? ⟨n, 0, none⟩ = some (.string (mk8 x0))) := Lib.hid fun w' hb => by
        have h := hst.out.below hb
        refine ⟨cell_of_row w' b4 0 _ _ _ h.r4, ?_⟩
        obtain ⟨a', c', e', -, -, h3⟩ := h.ss
        rcases h3 with h3 | ⟨o, ha, h3⟩
        · rw [hLR] at h3; cases h3
        · cases e'
          cases ha
          have := h3 0 x0 (by rw [hLR]; rfl)
          rw [Nat.add_zero] at this
          exact this
      have HW2 : Hid (kfound x0 k = if wordOf k = x0 then k else kfound x0 (k - 1)) := Lib.hid (by
        obtain ⟨q, rfl⟩ : ∃ q, k = q + 1 := ⟨k - 1, by omega⟩
        rfl)
      have hm0 : 0 < m := by rw [HM.out, hLR]; simp
      by_cases hwx : wordOf k = x0
      · have d2 : ((mk8 (wordOf k)).toList == (mk8 x0).toList) = true := by rw [hwx]; simp
        have HW3 := Lib.hid (HW2.out.trans (if_pos hwx))
        clear hwx HW2
        go_upto_region 6 with fail
        refine region_anyZ (z := 5) (S := fun w' => (w'.cell? ⟨b4, 0, none⟩ = some (.slice (some ⟨n, 0, none⟩) m m) ∧ w'.cell? ⟨n, 0, none⟩ = some (.string (mk8 x0)))) (by kernel_rfl) ?_
        refine anyZ_begin (fun hcl0 => ?_)
        refine anyZ_held (by exact HS.out _ (bdr (bre wr))) (fun hHeld => ?_)
        -- 0: Op.move (Operand.tmp 6)
        refine' anyZ_pure (i := 0) (v := _) rfl (by rfl) (by kernel_rfl) (by kernel_rfl) (by kernel_rfl) hcl0 (fun _ _ _ h => h) (Or.inl ⟨by rfl, fun w _ => ?hra1⟩) (fun _ => hHeld) (fun hcl1 => ?rra1)
        case hra1 => (simp only [List.getElem_toArray, List.getElem_cons_zero]; first | (go_simp; with_reducible rfl) | (go_simp; done) | rfl)
        simp only [List.getElem_toArray, List.getElem_cons_zero, Act.put, List.setIfInBounds_toArray, List.set_cons_zero, List.set_cons_succ]
        -- 2: Op.load 54 (Operand.tmp 4)
        refine' anyZ_take (i := 2) (v := _) rfl (by rfl) (by kernel_rfl) (by kernel_rfl) (by kernel_rfl) hcl1 6 (by kernel_rfl) (by kernel_rfl) (fun _ _ _ h => h) (Or.inl ⟨by rfl, fun w hSw => ?hra2⟩) hHeld (fun hcl2 => ?rra2)
        case hra2 => (simp only [List.getElem_toArray, List.getElem_cons_succ, List.getElem_cons_zero]; obtain ⟨hS1, hS2⟩ := hSw; first | (go_simp; with_reducible rfl) | (go_simp; done) | rfl)
        simp only [List.getElem_toArray, List.getElem_cons_succ, List.getElem_cons_zero, Act.put, List.setIfInBounds_toArray, List.set_cons_zero, List.set_cons_succ]
        -- 3: Op.indexAddr 54 (Operand.tmp 22) (Operand.const (Value.int I
        refine' anyZ_pure (i := 3) (v := _) rfl (by rfl) (by kernel_rfl) (by kernel_rfl) (by kernel_rfl) hcl2 (fun _ _ _ h => h) (Or.inl ⟨by rfl, fun w _ => ?hra3⟩) (fun _ => hHeld) (fun hcl3 => ?rra3)
        case hra3 => (simp only [List.getElem_toArray, List.getElem_cons_succ, List.getElem_cons_zero]; first | (go_simp; with_reducible rfl) | (go_simp; done) | rfl)
        simp only [List.getElem_toArray, List.getElem_cons_succ, List.getElem_cons_zero, Act.put, List.setIfInBounds_toArray, List.set_cons_zero, List.set_cons_succ]
        -- 4: Op.load 9 (Operand.tmp 23)
        refine' anyZ_take (i := 4) (v := _) rfl (by rfl) (by kernel_rfl) (by kernel_rfl) (by kernel_rfl) hcl3 6 (by kernel_rfl) (by kernel_rfl) (fun _ _ _ h => h) (Or.inl ⟨by rfl, fun w hSw => ?hra4⟩) hHeld (fun hcl4 => ?rra4)
        case hra4 => (simp only [List.getElem_toArray, List.getElem_cons_succ, List.getElem_cons_zero]; obtain ⟨hS1, hS2⟩ := hSw; first | (go_simp; with_reducible rfl) | (go_simp; done) | rfl)
        simp only [List.getElem_toArray, List.getElem_cons_succ, List.getElem_cons_zero, Act.put, List.setIfInBounds_toArray, List.set_cons_zero, List.set_cons_succ]
        -- 1: Op.call { callee := Callee.value (Operand.func 9), args := #
        refine anyZ_oneG (i := 1) hcl4 (by kernel_rfl) (by simp only [List.getElem?_toArray, List.getElem?_cons_succ, List.getElem?_cons_zero]; rfl) (by rfl) (fun hcl5 K hK => ?_)
        go_simp
        refine (HWD.out _ (bdr (bre wr))).mono ?_
        rintro e wa ⟨rfl, hba⟩
        rw [strV_mk]
        have HA := Lib.hid (btr (bdr (bre wr)) hba)
        clear hba
        refine hK _ _ (fun _ => ?_) ?_
        · exact HS.out _ HA.out
        clear hK K hHeld
        have hHeld := (HS.out _ HA.out)
        try simp only [Act.put, List.setIfInBounds_toArray, List.set_cons_zero, List.set_cons_succ]
        clear hHeld
        refine anyZ_chain_at (by kernel_rfl) ?_
        simp only [List.drop_succ_cons, List.drop_zero]
        have hst2 := hst.out.below HA.out
        clear HA HS HWD
        have f5 := frozen_of_row wa b5 0 _ _ hst2.r5
        have c5 := cell_of_row wa b5 0 _ _ _ hst2.r5
        have HST2 := Lib.hid (hst2.kind HNE.out k)
        clear hst2
        go_wp2_with fail
        go_roundw
        case rel => exact ⟨k + 1, by omega, by omega, by go_num, by rw [Nat.add_sub_cancel, HW3.out]; exact HST2⟩
        case measure => simp [intOf]; try omega
      · have d2 : ((mk8 (wordOf k)).toList == (mk8 x0).toList) = false := by rw [mk8_toList, mk8_toList]; exact beq_false_of_ne hwx
        have HW3 := Lib.hid (HW2.out.trans (if_neg hwx))
        clear hwx HW2
        go_upto_region 6 with fail
        refine region_anyZ (z := 5) (S := fun w' => (w'.cell? ⟨b4, 0, none⟩ = some (.slice (some ⟨n, 0, none⟩) m m) ∧ w'.cell? ⟨n, 0, none⟩ = some (.string (mk8 x0)))) (by kernel_rfl) ?_
        refine anyZ_begin (fun hcl0 => ?_)
        refine anyZ_held (by exact HS.out _ (bdr (bre wr))) (fun hHeld => ?_)
        -- 0: Op.move (Operand.tmp 6)
        refine' anyZ_pure (i := 0) (v := _) rfl (by rfl) (by kernel_rfl) (by kernel_rfl) (by kernel_rfl) hcl0 (fun _ _ _ h => h) (Or.inl ⟨by rfl, fun w _ => ?hrb1⟩) (fun _ => hHeld) (fun hcl1 => ?rrb1)
        case hrb1 => (simp only [List.getElem_toArray, List.getElem_cons_zero]; first | (go_simp; with_reducible rfl) | (go_simp; done) | rfl)
        simp only [List.getElem_toArray, List.getElem_cons_zero, Act.put, List.setIfInBounds_toArray, List.set_cons_zero, List.set_cons_succ]
        -- 2: Op.load 54 (Operand.tmp 4)
        refine' anyZ_take (i := 2) (v := _) rfl (by rfl) (by kernel_rfl) (by kernel_rfl) (by kernel_rfl) hcl1 6 (by kernel_rfl) (by kernel_rfl) (fun _ _ _ h => h) (Or.inl ⟨by rfl, fun w hSw => ?hrb2⟩) hHeld (fun hcl2 => ?rrb2)
        case hrb2 => (simp only [List.getElem_toArray, List.getElem_cons_succ, List.getElem_cons_zero]; obtain ⟨hS1, hS2⟩ := hSw; first | (go_simp; with_reducible rfl) | (go_simp; done) | rfl)
        simp only [List.getElem_toArray, List.getElem_cons_succ, List.getElem_cons_zero, Act.put, List.setIfInBounds_toArray, List.set_cons_zero, List.set_cons_succ]
        -- 3: Op.indexAddr 54 (Operand.tmp 22) (Operand.const (Value.int I
        refine' anyZ_pure (i := 3) (v := _) rfl (by rfl) (by kernel_rfl) (by kernel_rfl) (by kernel_rfl) hcl2 (fun _ _ _ h => h) (Or.inl ⟨by rfl, fun w _ => ?hrb3⟩) (fun _ => hHeld) (fun hcl3 => ?rrb3)
        case hrb3 => (simp only [List.getElem_toArray, List.getElem_cons_succ, List.getElem_cons_zero]; first | (go_simp; with_reducible rfl) | (go_simp; done) | rfl)
        simp only [List.getElem_toArray, List.getElem_cons_succ, List.getElem_cons_zero, Act.put, List.setIfInBounds_toArray, List.set_cons_zero, List.set_cons_succ]
        -- 4: Op.load 9 (Operand.tmp 23)
        refine' anyZ_take (i := 4) (v := _) rfl (by rfl) (by kernel_rfl) (by kernel_rfl) (by kernel_rfl) hcl3 6 (by kernel_rfl) (by kernel_rfl) (fun _ _ _ h => h) (Or.inl ⟨by rfl, fun w hSw => ?hrb4⟩) hHeld (fun hcl4 => ?rrb4)
        case hrb4 => (simp only [List.getElem_toArray, List.getElem_cons_succ, List.getElem_cons_zero]; obtain ⟨hS1, hS2⟩ := hSw; first | (go_simp; with_reducible rfl) | (go_simp; done) | rfl)
        simp only [List.getElem_toArray, List.getElem_cons_succ, List.getElem_cons_zero, Act.put, List.setIfInBounds_toArray, List.set_cons_zero, List.set_cons_succ]
        -- 1: Op.call { callee := Callee.value (Operand.func 9), args := #
        refine anyZ_oneG (i := 1) hcl4 (by kernel_rfl) (by simp only [List.getElem?_toArray, List.getElem?_cons_succ, List.getElem?_cons_zero]; rfl) (by rfl) (fun hcl5 K hK => ?_)
        go_simp
        refine (HWD.out _ (bdr (bre wr))).mono ?_
        rintro e wa ⟨rfl, hba⟩
        rw [strV_mk]
        have HA := Lib.hid (btr (bdr (bre wr)) hba)
        clear hba
        refine hK _ _ (fun _ => ?_) ?_
        · exact HS.out _ HA.out
        clear hK K hHeld
        have hHeld := (HS.out _ HA.out)
        try simp only [Act.put, List.setIfInBounds_toArray, List.set_cons_zero, List.set_cons_succ]
        clear hHeld
        refine anyZ_chain_at (by kernel_rfl) ?_
        simp only [List.drop_succ_cons, List.drop_zero]
        have HST2 := Lib.hid (hst.out.below HA.out)
        clear HA HS HWD
        go_wp2_with fail
        go_roundw
        case rel => exact ⟨k + 1, by omega, by omega, by go_num, by rw [Nat.add_sub_cancel, HW3.out]; exact HST2⟩
        case measure => simp [intOf]; try omega
    · have e15 : k = 15 := by omega
      subst e15
      have hK : kfound x0 14 = lineK s.data.toList := by unfold lineK; rw [← HL.out, hLR]; rfl
      rw [show 15 - 1 = 14 from rfl, hK] at hst
      have hKle : lineK s.data.toList ≤ 14 := kfound_le _ 14
      clear hlt hk1 hk15 hK HST
      subst hLR
      have c4 := cell_of_row wr b4 0 _ _ _ hst.out.r4
      have f4 := frozen_of_row wr b4 0 _ _ hst.out.r4
      obtain ⟨A, N, C, hrun, hsuf, rfl⟩ := run_tail hst.out.ss 57 9 rowStr'
      have hm0 : 0 < m := by rw [HM.out]; simp
      have hs4 := heap_setCell_same wr b4 0 _ _ (.slice A R.length C) hst.out.r4
      have hst4 := hst.out.box HNE.out (Only.setCell wr ⟨b4, 0, none⟩ (.slice A R.length C)) hs4 ((hsuf _ hst.out.ss).only (Only.setCell wr ⟨b4, 0, none⟩ (.slice A R.length C)) HNE.out.d)
      have HST4 := Lib.hid hst4
      clear hs4 hst4 hst hsuf
      go_upto_region 10 with fail
      generalize wr.setCell ⟨b4, 0, none⟩ (.slice A R.length C) = w4 at *
      obtain ⟨kd, hK⟩ : ∃ kd, kd = lineK s.data.toList := ⟨_, rfl⟩
      rw [← hK] at HST4 hKle
      have HK := Lib.hid hK
      obtain ⟨q1, hq1⟩ : ∃ q, q = decide (kd ≠ 10) := ⟨_, rfl⟩
      obtain ⟨q2, hq2⟩ : ∃ q, q = (288 : Nat).testBit kd := ⟨_, rfl⟩
      obtain ⟨q3, hq3⟩ : ∃ q, q = (1374 : Nat).testBit kd := ⟨_, rfl⟩
      have d1 : ((kd : Int) != 10) = q1 := by rw [hq1, Bool.eq_iff_iff, bne_iff_ne, decide_eq_true_iff]; omega
      have HIS2 : Hid (∀ w', Calls Tryz.prog 22 #[.int .i64 288, .int .u8 kd] w' fun e w'' => e = .returned (.bool q2) ∧ w'' = w') := Lib.hid fun w' => by rw [hq2]; exact is_any 288 kd (by omega) hKle w'
      have HIS3 : Hid (∀ w', Calls Tryz.prog 22 #[.int .i64 1374, .int .u8 kd] w' fun e w'' => e = .returned (.bool q3) ∧ w'' = w') := Lib.hid fun w' => by rw [hq3]; exact is_any 1374 kd (by omega) hKle w'
      have HQ1 := Lib.hid hq1
      have HQ2 := Lib.hid hq2
      have HQ3 := Lib.hid hq3
      have HST4d := Lib.hid (HST4.out.below (bdr (bre w4)))
      have HNX1 := Lib.hid (nx_any q1 n b4 _ R w4.drew HST4d.out.r4 HST4d.out.ss HNE.out.d)
      clear hK hq1 hq2 hq3 HST4 c4 f4 hrun hm0 hcl hxs
      refine region_anyZ (z := 10) (S := fun w' => w'.cell? ⟨b5, 0, none⟩ = some (.int .u8 kd)) (by kernel_rfl) ?_
      refine anyZ_begin (fun hcl0 => ?_)
      refine anyZ_held (by exact cell_of_row _ b5 0 _ _ _ HST4d.out.r5) (fun hHeld => ?_)
      -- 0: Op.move (Operand.tmp 7)
      refine' anyZ_pure (i := 0) (v := _) rfl (by rfl) (by kernel_rfl) (by kernel_rfl) (by kernel_rfl) hcl0 (fun _ _ _ h => h) (Or.inl ⟨by rfl, fun w _ => ?hrc1⟩) (fun _ => hHeld) (fun hcl1 => ?rrc1)
      case hrc1 => (simp only [List.getElem_toArray, List.getElem_cons_zero]; first | (go_simp; with_reducible rfl) | (go_simp; done) | rfl)
      simp only [List.getElem_toArray, List.getElem_cons_zero, Act.put, List.setIfInBounds_toArray, List.set_cons_zero, List.set_cons_succ]
      -- 1: Op.fieldAddr 36 (Operand.tmp 5) 0
      refine' anyZ_pure (i := 1) (v := _) rfl (by rfl) (by kernel_rfl) (by kernel_rfl) (by kernel_rfl) hcl1 (fun _ _ _ h => h) (Or.inl ⟨by rfl, fun w _ => ?hrc2⟩) (fun _ => hHeld) (fun hcl2 => ?rrc2)
      case hrc2 => (simp only [List.getElem_toArray, List.getElem_cons_succ, List.getElem_cons_zero]; first | (go_simp; with_reducible rfl) | (go_simp; done) | rfl)
      simp only [List.getElem_toArray, List.getElem_cons_succ, List.getElem_cons_zero, Act.put, List.setIfInBounds_toArray, List.set_cons_zero, List.set_cons_succ]
      -- 2: Op.load 5 (Operand.tmp 32)
      refine' anyZ_take (i := 2) (v := _) rfl (by rfl) (by kernel_rfl) (by kernel_rfl) (by kernel_rfl) hcl2 12 (by kernel_rfl) (by kernel_rfl) (fun _ _ _ h => h) (Or.inl ⟨by rfl, fun w hSw => ?hrc3⟩) hHeld (fun hcl3 => ?rrc3)
      case hrc3 => (simp only [List.getElem_toArray, List.getElem_cons_succ, List.getElem_cons_zero]; first | (go_simp; with_reducible rfl) | (go_simp; done) | rfl)
      simp only [List.getElem_toArray, List.getElem_cons_succ, List.getElem_cons_zero, Act.put, List.setIfInBounds_toArray, List.set_cons_zero, List.set_cons_succ]
      -- 3: Op.binOp BinOp.neq 5 (Operand.tmp 33) (Operand.const (Value.
      refine' anyZ_pure (i := 3) (v := _) rfl (by rfl) (by kernel_rfl) (by kernel_rfl) (by kernel_rfl) hcl3 (fun _ _ _ h => h) (Or.inl ⟨by rfl, fun w _ => ?hrc4⟩) (fun _ => hHeld) (fun hcl4 => ?rrc4)
      case hrc4 => (simp only [List.getElem_toArray, List.getElem_cons_succ, List.getElem_cons_zero]; first | (go_simp; with_reducible rfl) | (go_simp; done) | rfl)
      simp only [List.getElem_toArray, List.getElem_cons_succ, List.getElem_cons_zero, Act.put, List.setIfInBounds_toArray, List.set_cons_zero, List.set_cons_succ]
      -- 5: Op.move (Operand.tmp 7)
      refine' anyZ_pure (i := 5) (v := _) rfl (by rfl) (by kernel_rfl) (by kernel_rfl) (by kernel_rfl) hcl4 (fun _ _ _ h => h) (Or.inl ⟨by rfl, fun w _ => ?hrc5⟩) (fun _ => hHeld) (fun hcl5 => ?rrc5)
      case hrc5 => (simp only [List.getElem_toArray, List.getElem_cons_succ, List.getElem_cons_zero]; first | (go_simp; with_reducible rfl) | (go_simp; done) | rfl)
      simp only [List.getElem_toArray, List.getElem_cons_succ, List.getElem_cons_zero, Act.put, List.setIfInBounds_toArray, List.set_cons_zero, List.set_cons_succ]
      -- 6: Op.fieldAddr 36 (Operand.tmp 5) 0
      refine' anyZ_pure (i := 6) (v := _) rfl (by rfl) (by kernel_rfl) (by kernel_rfl) (by kernel_rfl) hcl5 (fun _ _ _ h => h) (Or.inl ⟨by rfl, fun w _ => ?hrc6⟩) (fun _ => hHeld) (fun hcl6 => ?rrc6)
      case hrc6 => (simp only [List.getElem_toArray, List.getElem_cons_succ, List.getElem_cons_zero]; first | (go_simp; with_reducible rfl) | (go_simp; done) | rfl)
      simp only [List.getElem_toArray, List.getElem_cons_succ, List.getElem_cons_zero, Act.put, List.setIfInBounds_toArray, List.set_cons_zero, List.set_cons_succ]
      -- 7: Op.load 5 (Operand.tmp 37)
      refine' anyZ_take (i := 7) (v := _) rfl (by rfl) (by kernel_rfl) (by kernel_rfl) (by kernel_rfl) hcl6 12 (by kernel_rfl) (by kernel_rfl) (fun _ _ _ h => h) (Or.inl ⟨by rfl, fun w hSw => ?hrc7⟩) hHeld (fun hcl7 => ?rrc7)
      case hrc7 => (simp only [List.getElem_toArray, List.getElem_cons_succ, List.getElem_cons_zero]; first | (go_simp; with_reducible rfl) | (go_simp; done) | rfl)
      simp only [List.getElem_toArray, List.getElem_cons_succ, List.getElem_cons_zero, Act.put, List.setIfInBounds_toArray, List.set_cons_zero, List.set_cons_succ]
      -- 4: Op.call { callee := Callee.value (Operand.tmp 31), args := #
      refine anyZ_oneG (i := 4) hcl7 (by kernel_rfl) (by simp only [List.getElem?_toArray, List.getElem?_cons_succ, List.getElem?_cons_zero]; rfl) (by rfl) (fun hcl8 K hK => ?_)
      go_simp
      refine HNX1.out.mono ?_
      rintro e wa ⟨rfl, ⟨va, hra, hsa⟩, hoa⟩
      have HST5 := Lib.hid (HST4d.out.box HNE.out hoa hra hsa)
      have HNX2 := Lib.hid (nx_any q2 n b4 va (nxR q1 R) wa HST5.out.r4 HST5.out.ss HNE.out.d)
      clear hra hsa hoa
      refine hK _ _ (fun _ => ?_) ?_
      · exact cell_of_row _ b5 0 _ _ _ HST5.out.r5
      clear hK K hHeld
      have hHeld := (cell_of_row _ b5 0 _ _ _ HST5.out.r5)
      try simp only [Act.put, List.setIfInBounds_toArray, List.set_cons_zero, List.set_cons_succ]
      -- 8: Op.call { callee := Callee.value (Operand.func 34), args := 
      refine anyZ_oneG (i := 8) hcl8 (by kernel_rfl) (by simp only [List.getElem?_toArray, List.getElem?_cons_succ, List.getElem?_cons_zero]; rfl) (by rfl) (fun hcl9 K hK => ?_)
      go_simp
      refine (HIS2.out _).mono ?_
      rintro e wb ⟨rfl, hwb⟩
      have hwb2 := hwb.symm
      subst hwb2
      clear hwb
      refine hK _ _ (fun _ => ?_) ?_
      · exact cell_of_row _ b5 0 _ _ _ HST5.out.r5
      clear hK K hHeld
      have hHeld := (cell_of_row _ b5 0 _ _ _ HST5.out.r5)
      try simp only [Act.put, List.setIfInBounds_toArray, List.set_cons_zero, List.set_cons_succ]
      -- 9: Op.call { callee := Callee.value (Operand.tmp 36), args := #
      refine anyZ_oneG (i := 9) hcl9 (by kernel_rfl) (by simp only [List.getElem?_toArray, List.getElem?_cons_succ, List.getElem?_cons_zero]; rfl) (by rfl) (fun hcl10 K hK => ?_)
      go_simp
      refine HNX2.out.mono ?_
      rintro e wb ⟨rfl, ⟨vb, hra, hsa⟩, hoa⟩
      have HST6 := Lib.hid (HST5.out.box HNE.out hoa hra hsa)
      clear hra hsa hoa
      refine hK _ _ (fun _ => ?_) ?_
      · exact cell_of_row _ b5 0 _ _ _ HST6.out.r5
      clear hK K hHeld
      have hHeld := (cell_of_row _ b5 0 _ _ _ HST6.out.r5)
      try simp only [Act.put, List.setIfInBounds_toArray, List.set_cons_zero, List.set_cons_succ]
      clear hHeld
      refine anyZ_chain_at (by kernel_rfl) ?_
      simp only [List.drop_succ_cons, List.drop_zero]
      have hR : R = (cutSp s.data.toList).tail := by rw [← HL.out]; rfl
      have eA : nxS q1 R = lineA s.data.toList := by unfold lineA; rw [HQ1.out, HK.out, hR]
      have eR1 : nxR q1 R = lineR1 s.data.toList := by unfold lineR1; rw [HQ1.out, HK.out, hR]
      have eB : nxS q2 (nxR q1 R) = lineB s.data.toList := by unfold lineB; rw [eR1, HQ2.out, HK.out]
      have eR2 : nxR q2 (nxR q1 R) = lineR2 s.data.toList := by unfold lineR2; rw [eR1, HQ2.out, HK.out]
      have eN : nxS q3 (nxR q2 (nxR q1 R)) = lineN s.data.toList := by unfold lineN; rw [eR2, HQ3.out, HK.out]
      obtain ⟨la, lb, ln⟩ := line_lens s.data.toList
      rw [str_len] at la lb ln
      have ha : (mk8 (lineA s.data.toList)).size ≤ 1000000 := by rw [← str_len]; show (lineA s.data.toList).length ≤ _; omega
      have hb : (mk8 (lineB s.data.toList)).size ≤ 1000000 := by rw [← str_len]; show (lineB s.data.toList).length ≤ _; omega
      have hnn : (mk8 (lineN s.data.toList)).size ≤ 1000000 := by rw [← str_len]; show (lineN s.data.toList).length ≤ _; omega
      rw [eA, eB]
      have HEN := Lib.hid eN
      have HLA : Hid ((mk8 (lineA s.data.toList)).data.toList = lineA s.data.toList) := Lib.hid rfl
      have HLB : Hid ((mk8 (lineB s.data.toList)).data.toList = lineB s.data.toList) := Lib.hid rfl
      generalize mk8 (lineA s.data.toList) = sA at *
      generalize mk8 (lineB s.data.toList) = sB at *
      clear hR eA eB eR1 eR2 eN la lb ln d1 HNX1 HNX2 HST5 HST4d HIS2 HQ1 HQ2 HQ3 HL HM
      go_wp2_with fail
      refine (pu_any sA (by omega) wb (HV.out.below HST6.out.bl)).mono ?_
      rintro e w7 ⟨na, va, rfl, hn1, hn2, hn3, hb7⟩
      have HN1 := Lib.hid hn2
      have HN2 := Lib.hid hn3
      have HST7 := Lib.hid (HST6.out.below hb7)
      rw [HLA.out] at HN1 HN2
      clear hn2 hn3 hb7 HST6 HLA ha
      go_wp2_with fail
      refine (pu_any sB (by omega) w7 (HV.out.below HST7.out.bl)).mono ?_
      rintro e w8 ⟨nb, vb2, rfl, hm1, hn2, hn3, hb8⟩
      have HM1 := Lib.hid hn2
      have HM2 := Lib.hid hn3
      have HST8 := Lib.hid (HST7.out.below hb8)
      rw [HLB.out] at HM1 HM2
      have HNX3 := Lib.hid (nx_any q3 n b4 vb _ w8 HST8.out.r4 HST8.out.ss HNE.out.d)
      rw [HEN.out] at HNX3
      have c5 := cell_of_row w8 b5 0 _ _ _ HST8.out.r5
      clear hn2 hn3 hb8 HST7 HLB hb HEN
      generalize hsn : mk8 (lineN s.data.toList) = sN at *
      have HSN := Lib.hid hsn
      clear hsn
      go_wp2_with fail
      refine (HIS3.out w8).mono ?_
      rintro e w9 ⟨rfl, hw⟩
      have hw' := hw.symm
      subst hw'
      clear hw
      go_wp2_with fail
      refine HNX3.out.mono ?_
      rintro e w9 ⟨rfl, ⟨vc, hra, hsa⟩, hoa⟩
      have HST9 := Lib.hid (HST8.out.box HNE.out hoa hra hsa)
      have r1 := heap_setCell_same w9 b5 1 _ _ (.int .u64 na) HST9.out.r5
      have r2 := heap_setCell_same _ b5 2 _ _ (.int .u64 nb) r1
      have r3 := heap_setCell_same _ b5 3 _ _ (.string sN) r2
      have f1 := frozen_of_row w9 b5 1 _ _ HST9.out.r5
      have f2 := frozen_of_row w9 b5 2 _ _ HST9.out.r5
      have f3 := frozen_of_row w9 b5 3 _ _ HST9.out.r5
      have c1 := cell_of_row w9 b5 1 _ _ _ HST9.out.r5
      have c2 := cell_of_row w9 b5 2 _ _ _ HST9.out.r5
      have c3 := cell_of_row w9 b5 3 _ _ _ HST9.out.r5
      have o1 := Only.setCell w9 ⟨b5, 1, none⟩ (.int .u64 na)
      have o2 := o1.trans (Only.setCell _ ⟨b5, 2, none⟩ (.int .u64 nb)) (fun _ _ h => h)
      have o3 := o2.trans (Only.setCell _ ⟨b5, 3, none⟩ (.string sN)) (fun _ _ h => h)
      clear hra hsa hoa HST8 HNX3 HIS3 c5
      go_upto_region 14 with fail
      have hr2 := (o3.block b2 (Array.getElem?_eq_some_iff.1 HST9.out.r2).1 HNE.out.b).trans HST9.out.r2
      have hbl : Below w.heap.size w _ := HST9.out.bl.trans (o3.below w.heap.size HST9.out.bl.size fun k _ e => by have := HNE.out.f.2.2; omega)
      generalize ((w9.setCell ⟨b5, 1, none⟩ (.int .u64 na)).setCell ⟨b5, 2, none⟩ (.int .u64 nb)).setCell ⟨b5, 3, none⟩ (.string sN) = w10 at *
      have HR5 : Hid (w10.heap[b5]? = some (.cells #[.int .u8 kd, .int .u64 na, .int .u64 nb, .string sN] 25 (0, 0))) := Lib.hid r3
      have HR2 := Lib.hid hr2
      have HBL := Lib.hid hbl
      have HF2 : Hid (w.heap.size ≤ b2) := Lib.hid HNE.out.f.1
      have d0 := cell_of_row w10 b5 0 _ _ _ HR5.out
      have d1 := cell_of_row w10 b5 1 _ _ _ HR5.out
      have d2 := cell_of_row w10 b5 2 _ _ _ HR5.out
      have d3 := cell_of_row w10 b5 3 _ _ _ HR5.out
      have HTX := Lib.hid (txt_any kd na nb sN (by omega) hn1 hm1 (by omega) w10 (HT.out.below hbl))
      have HRT := Lib.hid (fun w' h => right_any kd na nb sN (by omega) (by omega) w' h)
      have HLB : Hid (∀ k a b nm, LineOf s.data.toList k a b nm → kd = k ∧ na = a ∧ nb = b ∧ sN = nm) := Lib.hid fun k a b nm h => by
        obtain ⟨e1, e2, e3, e4⟩ := line_back HN1.out HN2.out HM1.out HM2.out h
        exact ⟨by rw [HK.out]; exact e1, e2, e3, by rw [← HSN.out]; exact e4⟩
      have hn64 := hn1
      have hm64 := hm1
      clear r1 r2 r3 f1 f2 f3 c1 c2 c3 o1 o2 o3 hr2 hbl HST9 HNE HN1 HN2 HM1 HM2 HSN HK
      go_wp2_with fail
      refine HTX.out.mono ?_
      rintro e w11 ⟨rfl, hb11⟩
      have HB11 := Lib.hid (btr HBL.out hb11)
      have HT11 := Lib.hid (HT.out.below HB11.out)
      have HR51 := Lib.hid ((hb11.block b5 (Array.getElem?_eq_some_iff.1 HR5.out).1).trans HR5.out)
      have HR21 := Lib.hid ((hb11.block b2 (Array.getElem?_eq_some_iff.1 HR2.out).1).trans HR2.out)
      rw [strV_mk]
      clear hb11 HBL HTX d0 d1 d2 d3 HR5 HR2
      have d0 := cell_of_row w11 b5 0 _ _ _ HR51.out
      have d1 := cell_of_row w11 b5 1 _ _ _ HR51.out
      have d2 := cell_of_row w11 b5 2 _ _ _ HR51.out
      have d3 := cell_of_row w11 b5 3 _ _ _ HR51.out
      have e0 := cell_of_row w11 b2 0 _ _ _ HR21.out
      have e1 := cell_of_row w11 b2 1 _ _ _ HR21.out
      have e2 := cell_of_row w11 b2 2 _ _ _ HR21.out
      have e3 := cell_of_row w11 b2 3 _ _ _ HR21.out
      have f0 := frozen_of_row w11 b2 0 _ _ HR21.out
      have f1 := frozen_of_row w11 b2 1 _ _ HR21.out
      have f2 := frozen_of_row w11 b2 2 _ _ HR21.out
      have f3 := frozen_of_row w11 b2 3 _ _ HR21.out
      by_cases hline : txtOf kd na nb sN = s.data.toList
      · have t1 : ((mk8 (txtOf kd na nb sN)).toList != s.toList) = false := by rw [mk8_toList, hline, ByteArray.toList_eq]; simp
        have t2 : decide ((mk8 (txtOf kd na nb sN)).toList = s.toList) = true := decide_eq_true (by rw [mk8_toList, hline, ByteArray.toList_eq])
        have t3 : ((mk8 (txtOf kd na nb sN)).toList == s.toList) = true := by rw [mk8_toList, hline, ByteArray.toList_eq]; simp
        generalize mk8 (txtOf kd na nb sN) = tx at *
        have HLN := Lib.hid hline
        clear hline
        go_wp2_with fail
        refine (HRT.out w11 HT11.out.sp).mono ?_
        rintro e w12 ⟨rfl, hb12⟩
        have HB12 := Lib.hid (btr HB11.out hb12)
        have hr5 := (hb12.block b5 (Array.getElem?_eq_some_iff.1 HR51.out).1).trans HR51.out
        have hr2 := (hb12.block b2 (Array.getElem?_eq_some_iff.1 HR21.out).1).trans HR21.out
        have HR22 := Lib.hid hr2
        clear d0 d1 d2 d3 e0 e1 e2 e3 f0 f1 f2 f3 hb12 HB11 HR51 HR21 t1 t2 t3
        have d0 := cell_of_row w12 b5 0 _ _ _ hr5
        have d1 := cell_of_row w12 b5 1 _ _ _ hr5
        have d2 := cell_of_row w12 b5 2 _ _ _ hr5
        have d3 := cell_of_row w12 b5 3 _ _ _ hr5
        have e0 := cell_of_row w12 b2 0 _ _ _ hr2
        have e1 := cell_of_row w12 b2 1 _ _ _ hr2
        have e2 := cell_of_row w12 b2 2 _ _ _ hr2
        have e3 := cell_of_row w12 b2 3 _ _ _ hr2
        have f0 := frozen_of_row w12 b2 0 _ _ hr2
        have f1 := frozen_of_row w12 b2 1 _ _ hr2
        have f2 := frozen_of_row w12 b2 2 _ _ hr2
        have f3 := frozen_of_row w12 b2 3 _ _ hr2
        clear hr5 hr2
        cases hrb : rightB kd na nb sN with
        | true =>
          have HRB := Lib.hid hrb
          clear hrb
          go_wp2_with fail
          clear d0 d1 d2 d3 e0 e1 e2 e3 f0 f1 f2 f3
          obtain ⟨hrow, hbw⟩ := op_stored (.int .u8 kd) (.int .u64 na) (.int .u64 nb) (.string sN) HR22.out HB12.out HF2.out
          have d0 := cell_of_row _ b2 0 _ _ _ hrow
          have d1 := cell_of_row _ b2 1 _ _ _ hrow
          have d2 := cell_of_row _ b2 2 _ _ _ hrow
          have d3 := cell_of_row _ b2 3 _ _ _ hrow
          generalize ((((w12.setCell ⟨b2, 0, none⟩ (.int .u8 kd)).setCell ⟨b2, 1, none⟩ (.int .u64 na)).setCell ⟨b2, 2, none⟩ (.int .u64 nb)).setCell ⟨b2, 3, none⟩ (.string sN)) = W9 at *
          refine bodyPost_ret (v := .tuple #[.agg #[(.int .u8 kd), (.int .u64 na), (.int .u64 nb), (.string sN)], .int .i64 0]) (by simp [results, Tryz.results13, go_sem, d0, d1, d2, d3]) rfl ?_
          exact ⟨.inl ⟨kd, na, nb, sN, ⟨HRB.out, hn64, hm64, HLN.out⟩, rfl⟩, hbw⟩
        | false =>
          have HRB := Lib.hid hrb
          clear hrb
          go_wp2_with fail
          clear d0 d1 d2 d3 e0 e1 e2 e3 f0 f1 f2 f3
          obtain ⟨hrow, hbw⟩ := op_stored (.int .u8 0) (.int .u64 0) (.int .u64 0) (.string ⟨#[]⟩) HR22.out HB12.out HF2.out
          have d0 := cell_of_row _ b2 0 _ _ _ hrow
          have d1 := cell_of_row _ b2 1 _ _ _ hrow
          have d2 := cell_of_row _ b2 2 _ _ _ hrow
          have d3 := cell_of_row _ b2 3 _ _ _ hrow
          generalize ((((w12.setCell ⟨b2, 0, none⟩ (.int .u8 0)).setCell ⟨b2, 1, none⟩ (.int .u64 0)).setCell ⟨b2, 2, none⟩ (.int .u64 0)).setCell ⟨b2, 3, none⟩ (.string ⟨#[]⟩)) = W9 at *
          refine bodyPost_ret (v := .tuple #[.agg #[(.int .u8 0), (.int .u64 0), (.int .u64 0), (.string ⟨#[]⟩)], .int .i64 20]) (by simp [results, Tryz.results13, go_sem, d0, d1, d2, d3]) rfl ?_
          refine ⟨.inr ⟨fun k a b nm h => ?_, rfl⟩, hbw⟩
          obtain ⟨rfl, rfl, rfl, rfl⟩ := HLB.out k a b nm h
          rw [h.1] at HRB
          exact absurd HRB.out (by decide)
      · have t1 : ((mk8 (txtOf kd na nb sN)).toList != s.toList) = true := by rw [mk8_toList, ByteArray.toList_eq, bne_iff_ne]; exact hline
        have t2 : decide ((mk8 (txtOf kd na nb sN)).toList = s.toList) = false := decide_eq_false (by rw [mk8_toList, ByteArray.toList_eq]; exact hline)
        have t3 : ((mk8 (txtOf kd na nb sN)).toList == s.toList) = false := by rw [mk8_toList, ByteArray.toList_eq]; exact beq_false_of_ne hline
        have HR22 := HR21
        have HNL := Lib.hid hline
        generalize mk8 (txtOf kd na nb sN) = tx at *
        clear hline
        go_wp2_with fail
        clear d0 d1 d2 d3 e0 e1 e2 e3 f0 f1 f2 f3
        obtain ⟨hrow, hbw⟩ := op_stored (.int .u8 0) (.int .u64 0) (.int .u64 0) (.string ⟨#[]⟩) HR22.out HB11.out HF2.out
        have d0 := cell_of_row _ b2 0 _ _ _ hrow
        have d1 := cell_of_row _ b2 1 _ _ _ hrow
        have d2 := cell_of_row _ b2 2 _ _ _ hrow
        have d3 := cell_of_row _ b2 3 _ _ _ hrow
        generalize ((((w11.setCell ⟨b2, 0, none⟩ (.int .u8 0)).setCell ⟨b2, 1, none⟩ (.int .u64 0)).setCell ⟨b2, 2, none⟩ (.int .u64 0)).setCell ⟨b2, 3, none⟩ (.string ⟨#[]⟩)) = W9 at *
        refine bodyPost_ret (v := .tuple #[.agg #[(.int .u8 0), (.int .u64 0), (.int .u64 0), (.string ⟨#[]⟩)], .int .i64 20]) (by simp [results, Tryz.results13, go_sem, d0, d1, d2, d3]) rfl ?_
        refine ⟨.inr ⟨fun k a b nm h => ?_, rfl⟩, hbw⟩
        obtain ⟨rfl, rfl, rfl, rfl⟩ := HLB.out k a b nm h
        exact HNL.out h.2.2.2
end Go.Proofs.YtminfdlhbecnhaaGreatDoor
