/- Walk: the document's Take, its other ways. -/
import Derived.Test.YtddhnenlfdpomaaRTake
namespace Go.Proofs.Ytddhnenlfdpomaa
open Go.RowKit

set_option maxRecDepth 10000 in
set_option maxHeartbeats 1600000 in
theorem rtake0_any (v : Value) (p : List UInt8) (f : Fld) (w : World) (hv : Bytes w v p) (h : f.kind % 5 = 0) :
    Calls Try.prog 18 #[v, FldV f] w fun e w' => TakeSays v f p e ∧ Below w.heap.size w w' := by
  have hT : ∀ o, takeOf f o = .agg #[.int .u8 f.kind, .int .u64 (Rd.num f.most o).1, .string ⟨#[]⟩, .int .u64 f.most] := fun o => by unfold takeOf; rw [if_neg (show ¬ f.kind % 5 = 1 by omega), if_neg (show ¬ f.kind % 5 = 2 by omega), if_neg (show ¬ f.kind % 5 = 3 by omega), if_neg (show ¬ f.kind % 5 = 4 by omega)]
  have hR : ∀ o, takeRest f o = (Rd.num f.most o).2 := fun o => by unfold takeRest; rw [if_neg (show ¬ f.kind % 5 = 1 by omega), if_neg (show ¬ f.kind % 5 = 2 by omega), if_neg (show ¬ f.kind % 5 = 3 by omega), if_neg (show ¬ f.kind % 5 = 4 by omega)]
  have HT := Lib.hid hT
  have HR := Lib.hid hR
  clear hT hR
  obtain ⟨kind, n, s, most, hk, hn, hm⟩ := f
  have HV := Lib.hid hv
  obtain ⟨a, c, rfl, hmax, hcap, _⟩ := hv
  have hmax2 : p.length ≤ 9223372036854775807 := by unfold maxLen at hmax; omega
  unfold FldV Fld.cells
  simp only at h ⊢
  go_enter Try.func18, Try.ntmps18
  go_wp2_with fail
  have hG0 := two_new w (.cells #[.int .u8 kind, .int .u64 n, .string s, .int .u64 most] 40) (.cells #[.int .u8 0, .int .u64 0, .string ⟨#[]⟩, .int .u64 0] 40) (.cells #[.int .u8 kind, .int .u64 0, .string ⟨#[]⟩, .int .u64 most] 40)
  obtain ⟨hG1, hG2⟩ := three_new w (.cells #[.int .u8 kind, .int .u64 n, .string s, .int .u64 most] 40) (.cells #[.int .u8 0, .int .u64 0, .string ⟨#[]⟩, .int .u64 0] 40) (.cells #[.int .u8 kind, .int .u64 0, .string ⟨#[]⟩, .int .u64 most] 40)
  have hbW := bal (bal (bal (bre w) (.cells #[.int .u8 kind, .int .u64 n, .string s, .int .u64 most] 40)) (.cells #[.int .u8 0, .int .u64 0, .string ⟨#[]⟩, .int .u64 0] 40)) (.cells #[.int .u8 kind, .int .u64 0, .string ⟨#[]⟩, .int .u64 most] 40)
  generalize (((w.alloc (.cells #[.int .u8 kind, .int .u64 n, .string s, .int .u64 most] 40)).alloc (.cells #[.int .u8 0, .int .u64 0, .string ⟨#[]⟩, .int .u64 0] 40)).alloc (.cells #[.int .u8 kind, .int .u64 0, .string ⟨#[]⟩, .int .u64 most] 40)) = W at *
  refine (number_any _ p W (HV.out.below hbW)).mono ?_
  rintro e w1 ⟨rfl, rfl⟩
  obtain ⟨b0, b1, b2, b3, er⟩ := row4 hG0
  obtain ⟨c0, c1, c2, c3, fr⟩ := row4 hG1
  obtain ⟨d0, d1, d2, d3, gr⟩ := row4 hG2
  have HW := Lib.hid hbW
  clear hG0 hG1 hG2 hbW
  cases hdec : Rd.dec 0 0 p with
  | none =>
    rw [numOf_none hdec]
    have e1 := HT.out (some p)
    have e2 := HR.out (some p)
    rw [show Rd.num most (some p) = (0, none) by rw [Rd.num_none (by simpa using hdec)]] at e1 e2
    have E1 := Lib.hid e1
    have E2 := Lib.hid e2
    clear e1 e2 hdec
    generalize hg : w.heap.size = g at *
    have HG := Lib.hid hg
    clear hg
    go_wp2_with fail
    all_goals
      refine bodyPost_ret (v := .tuple #[.agg #[.int .u8 kind, .int .u64 0, .string ⟨#[]⟩, .int .u64 most], .slice none 0 0, .bool false]) (by simp [results, Try.results18, go_sem, c0, c1, c2, c3]) rfl ?_
      exact rt_fin (b := false) (q := []) HG.out HW.out (by repeat (first | exact Below.refl _ _ | refine Below.drew ?_ | refine bset ?_ _ _ _ (by omega))) E1.out E2.out (fun _ => rfl) (fun _ _ => (Own8.nil 5 0 _).bytes)
  | some q =>
    obtain ⟨m, r⟩ := q
    obtain ⟨hp, hm64, hn1, hn2, hpos⟩ := dec_front hdec
    have hdrop : p.drop (Vi.varint m).length = r := by rw [hp]; simp
    have hle2 : (Vi.varint m).length ≤ p.length := by rw [hp]; simp
    have hrl : p.length - (Vi.varint m).length = r.length := by rw [hp]; simp
    have e1 := HT.out (some p)
    have e2 := HR.out (some p)
    by_cases hmm : m ≤ most
    · have hmd : decide (most < m) = false := by simp; omega
      rw [show Rd.num most (some p) = (m, some r) by rw [num_of_dec hdec, if_pos hmm]] at e1 e2
      obtain ⟨A, N, C, hrun, hby, hN⟩ := run_suffix_all (P := Try.prog) HV.out (Vi.varint m).length 24 5 hle2 row8
      rw [hdrop] at hby
      have HY := Lib.hid hby
      have E1 := Lib.hid e1
      have E2 := Lib.hid e2
      clear e1 e2 hdec hp hdrop hby hN hrl
      rw [hn1, hn2]
      clear hn1 hn2
      generalize (Vi.varint m).length = K at *
      generalize hg : w.heap.size = g at *
      have HG := Lib.hid hg
      clear hg
      go_wp2_with fail
      go_region
      all_goals
        go_wp2_with fail
        refine bodyPost_ret (v := .tuple #[.agg #[.int .u8 kind, .int .u64 m, .string ⟨#[]⟩, .int .u64 most], .slice A N C, .bool true]) (by simp [results, Try.results18, go_sem, c0, c1, c2, c3]) rfl ?_
        exact rt_fin (b := true) (q := r) HG.out HW.out (by repeat (first | exact Below.refl _ _ | refine Below.drew ?_ | refine bset ?_ _ _ _ (by omega))) E1.out E2.out (fun h => by cases h) HY.out
    · have hmd : decide (most < m) = true := by simp; omega
      rw [show Rd.num most (some p) = (0, none) by rw [num_of_dec hdec, if_neg hmm]] at e1 e2
      obtain ⟨A, N, C, hrun, hby, hN⟩ := run_suffix_all (P := Try.prog) HV.out (Vi.varint m).length 24 5 hle2 row8
      rw [hdrop] at hby
      have HY := Lib.hid hby
      have E1 := Lib.hid e1
      have E2 := Lib.hid e2
      clear e1 e2 hdec hp hdrop hby hN hrl
      rw [hn1, hn2]
      clear hn1 hn2
      generalize (Vi.varint m).length = K at *
      generalize hg : w.heap.size = g at *
      have HG := Lib.hid hg
      clear hg
      go_wp2_with fail
      all_goals
        refine bodyPost_ret (v := .tuple #[.agg #[.int .u8 kind, .int .u64 0, .string ⟨#[]⟩, .int .u64 most], .slice none 0 0, .bool false]) (by simp [results, Try.results18, go_sem, c0, c1, c2, c3]) rfl ?_
        exact rt_fin (b := false) (q := []) HG.out HW.out (by repeat (first | exact Below.refl _ _ | refine Below.drew ?_ | refine bset ?_ _ _ _ (by omega))) E1.out E2.out (fun _ => rfl) (fun _ _ => (Own8.nil 5 0 _).bytes)
set_option maxRecDepth 10000 in
set_option maxHeartbeats 1600000 in
theorem rtake3_any (v : Value) (p : List UInt8) (f : Fld) (w : World) (hv : Bytes w v p) (h : f.kind % 5 = 3) :
    Calls Try.prog 18 #[v, FldV f] w fun e w' => TakeSays v f p e ∧ Below w.heap.size w w' := by
  have hT : ∀ o, takeOf f o = .agg #[.int .u8 f.kind, .int .u64 (Rd.take o).1.toNat, .string ⟨#[]⟩, .int .u64 f.most] := fun o => by unfold takeOf; rw [if_neg (show ¬ f.kind % 5 = 1 by omega), if_neg (show ¬ f.kind % 5 = 2 by omega), if_pos h]
  have hR : ∀ o, takeRest f o = (Rd.take o).2 := fun o => by unfold takeRest; rw [if_neg (show ¬ f.kind % 5 = 1 by omega), if_neg (show ¬ f.kind % 5 = 2 by omega), if_pos h]
  have HT := Lib.hid hT
  have HR := Lib.hid hR
  clear hT hR
  obtain ⟨kind, n, s, most, hk, hn, hm⟩ := f
  have HV := Lib.hid hv
  obtain ⟨a, c, rfl, hmax, hcap, _⟩ := hv
  have hmax2 : p.length ≤ 9223372036854775807 := by unfold maxLen at hmax; omega
  unfold FldV Fld.cells
  simp only at h ⊢
  go_enter Try.func18, Try.ntmps18
  go_upto_region 17 with fail
  have hG0 := two_new w (.cells #[.int .u8 kind, .int .u64 n, .string s, .int .u64 most] 40) (.cells #[.int .u8 0, .int .u64 0, .string ⟨#[]⟩, .int .u64 0] 40) (.cells #[.int .u8 kind, .int .u64 0, .string ⟨#[]⟩, .int .u64 most] 40)
  obtain ⟨hG1, hG2⟩ := three_new w (.cells #[.int .u8 kind, .int .u64 n, .string s, .int .u64 most] 40) (.cells #[.int .u8 0, .int .u64 0, .string ⟨#[]⟩, .int .u64 0] 40) (.cells #[.int .u8 kind, .int .u64 0, .string ⟨#[]⟩, .int .u64 most] 40)
  have hbW := bal (bal (bal (bre w) (.cells #[.int .u8 kind, .int .u64 n, .string s, .int .u64 most] 40)) (.cells #[.int .u8 0, .int .u64 0, .string ⟨#[]⟩, .int .u64 0] 40)) (.cells #[.int .u8 kind, .int .u64 0, .string ⟨#[]⟩, .int .u64 most] 40)
  generalize (((w.alloc (.cells #[.int .u8 kind, .int .u64 n, .string s, .int .u64 most] 40)).alloc (.cells #[.int .u8 0, .int .u64 0, .string ⟨#[]⟩, .int .u64 0] 40)).alloc (.cells #[.int .u8 kind, .int .u64 0, .string ⟨#[]⟩, .int .u64 most] 40)) = W at *
  obtain ⟨b0, b1, b2, b3, er⟩ := row4 hG0
  obtain ⟨c0, c1, c2, c3, fr⟩ := row4 hG1
  obtain ⟨d0, d1, d2, d3, gr⟩ := row4 hG2
  have HW := Lib.hid hbW
  clear hG0 hG1 hG2 hbW
  cases p with
  | nil =>
    have e1 := HT.out (some [])
    have e2 := HR.out (some [])
    rw [show Rd.take (some []) = (0, none) by rfl] at e1 e2
    have E1 := Lib.hid e1
    have E2 := Lib.hid e2
    clear e1 e2
    generalize hg : w.heap.size = g at *
    have HG := Lib.hid hg
    clear hg
    go_wp2_with fail
    all_goals
      refine bodyPost_ret (v := .tuple #[.agg #[.int .u8 kind, .int .u64 0, .string ⟨#[]⟩, .int .u64 most], .slice none 0 0, .bool false]) (by simp [results, Try.results18, go_sem, c0, c1, c2, c3]) rfl ?_
      exact rt_fin (b := false) (q := []) HG.out HW.out (by repeat (first | exact Below.refl _ _ | refine Below.drew ?_ | refine bset ?_ _ _ _ (by omega))) E1.out E2.out (fun _ => rfl) (fun _ _ => (Own8.nil 5 0 _).bytes)
  | cons b r =>
    obtain ⟨A, N, C, hrun, hby, hN⟩ := run_suffix_all (P := Try.prog) HV.out 1 24 5 (by simp) row8
    have hby1 : ∀ W, Bytes W (.slice a (b :: r).length c) (b :: r) → Bytes W (.slice A N C) r := fun W h => by simpa using hby W h
    have HY := Lib.hid hby1
    have hcell : ∃ g o, a = some ⟨g, o, none⟩ ∧ w.cell? ⟨g, o, none⟩ = some (.int .u8 b.toNat) ∧ g < w.heap.size := by
      obtain ⟨a', c', e', _, _, _, h | ⟨g, o, ha, h⟩⟩ := HV.out
      · cases h
      · cases e'
        obtain ⟨u, hu, rfl⟩ := h 0 b rfl
        exact ⟨g, o, ha, hu, block_lt_of_cell hu⟩
    obtain ⟨gb, ob, rfl, hcb, hgb⟩ := hcell
    have hcb2 := (HW.out.cell (p := ⟨gb, ob, none⟩) hgb).trans hcb
    have hB : b.toNat < 256 := b.toNat_lt
    have e1 := HT.out (some (b :: r))
    have e2 := HR.out (some (b :: r))
    have hrun' : ∀ w', (Instr.slice 24 (.slice (some ⟨gb, ob, none⟩) (r.length + 1) c) (some (.int .i64 1)) none none).run Try.prog w' = .ok (.slice A N C) w' := by simpa using hrun
    simp only [List.length_cons] at hmax hmax2 hcap ⊢
    clear hby hby1 hN hcb hrun
    simp only [Rd.take] at e1 e2
    have E1 := Lib.hid e1
    have E2 := Lib.hid e2
    clear e1 e2
    generalize hg : w.heap.size = g at *
    have HG := Lib.hid hg
    clear hg
    go_wp2_with fail
    go_region
    all_goals
      go_wp2_with fail
      refine bodyPost_ret (v := .tuple #[.agg #[.int .u8 kind, .int .u64 b.toNat, .string ⟨#[]⟩, .int .u64 most], .slice A N C, .bool true]) (by simp [results, Try.results18, go_sem, c0, c1, c2, c3]) rfl ?_
      exact rt_fin (b := true) (q := r) HG.out HW.out (by repeat (first | exact Below.refl _ _ | refine Below.drew ?_ | refine bset ?_ _ _ _ (by omega))) E1.out E2.out (fun h => by cases h) HY.out
set_option maxRecDepth 10000 in
set_option maxHeartbeats 1600000 in
theorem rtake4_any (v : Value) (p : List UInt8) (f : Fld) (w : World) (hv : Bytes w v p) (h : f.kind % 5 = 4) :
    Calls Try.prog 18 #[v, FldV f] w fun e w' => TakeSays v f p e ∧ Below w.heap.size w w' := by
  have hT : ∀ o, takeOf f o = .agg #[.int .u8 f.kind, .int .u64 (if (Rd.bool o).1 then 1 else 0), .string ⟨#[]⟩, .int .u64 f.most] := fun o => by unfold takeOf; rw [if_neg (show ¬ f.kind % 5 = 1 by omega), if_neg (show ¬ f.kind % 5 = 2 by omega), if_neg (show ¬ f.kind % 5 = 3 by omega), if_pos h]
  have hR : ∀ o, takeRest f o = (Rd.bool o).2 := fun o => by unfold takeRest; rw [if_neg (show ¬ f.kind % 5 = 1 by omega), if_neg (show ¬ f.kind % 5 = 2 by omega), if_neg (show ¬ f.kind % 5 = 3 by omega), if_pos h]
  have HT := Lib.hid hT
  have HR := Lib.hid hR
  clear hT hR
  obtain ⟨kind, n, s, most, hk, hn, hm⟩ := f
  have HV := Lib.hid hv
  obtain ⟨a, c, rfl, hmax, hcap, _⟩ := hv
  have hmax2 : p.length ≤ 9223372036854775807 := by unfold maxLen at hmax; omega
  unfold FldV Fld.cells
  simp only at h ⊢
  go_enter Try.func18, Try.ntmps18
  go_upto_region 17 with fail
  have hG0 := two_new w (.cells #[.int .u8 kind, .int .u64 n, .string s, .int .u64 most] 40) (.cells #[.int .u8 0, .int .u64 0, .string ⟨#[]⟩, .int .u64 0] 40) (.cells #[.int .u8 kind, .int .u64 0, .string ⟨#[]⟩, .int .u64 most] 40)
  obtain ⟨hG1, hG2⟩ := three_new w (.cells #[.int .u8 kind, .int .u64 n, .string s, .int .u64 most] 40) (.cells #[.int .u8 0, .int .u64 0, .string ⟨#[]⟩, .int .u64 0] 40) (.cells #[.int .u8 kind, .int .u64 0, .string ⟨#[]⟩, .int .u64 most] 40)
  have hbW := bal (bal (bal (bre w) (.cells #[.int .u8 kind, .int .u64 n, .string s, .int .u64 most] 40)) (.cells #[.int .u8 0, .int .u64 0, .string ⟨#[]⟩, .int .u64 0] 40)) (.cells #[.int .u8 kind, .int .u64 0, .string ⟨#[]⟩, .int .u64 most] 40)
  generalize (((w.alloc (.cells #[.int .u8 kind, .int .u64 n, .string s, .int .u64 most] 40)).alloc (.cells #[.int .u8 0, .int .u64 0, .string ⟨#[]⟩, .int .u64 0] 40)).alloc (.cells #[.int .u8 kind, .int .u64 0, .string ⟨#[]⟩, .int .u64 most] 40)) = W at *
  obtain ⟨b0, b1, b2, b3, er⟩ := row4 hG0
  obtain ⟨c0, c1, c2, c3, fr⟩ := row4 hG1
  obtain ⟨d0, d1, d2, d3, gr⟩ := row4 hG2
  have HW := Lib.hid hbW
  clear hG0 hG1 hG2 hbW
  cases p with
  | nil =>
    have e1 := HT.out (some [])
    have e2 := HR.out (some [])
    rw [show Rd.bool (some []) = (false, none) by rfl] at e1 e2
    simp only [Bool.false_eq_true, if_false] at e1
    have E1 := Lib.hid e1
    have E2 := Lib.hid e2
    clear e1 e2
    generalize hg : w.heap.size = g at *
    have HG := Lib.hid hg
    clear hg
    go_wp2_with fail
    all_goals
      refine bodyPost_ret (v := .tuple #[.agg #[.int .u8 kind, .int .u64 0, .string ⟨#[]⟩, .int .u64 most], .slice none 0 0, .bool false]) (by simp [results, Try.results18, go_sem, c0, c1, c2, c3]) rfl ?_
      exact rt_fin (b := false) (q := []) HG.out HW.out (by repeat (first | exact Below.refl _ _ | refine Below.drew ?_ | refine bset ?_ _ _ _ (by omega))) E1.out E2.out (fun _ => rfl) (fun _ _ => (Own8.nil 5 0 _).bytes)
  | cons b r =>
    obtain ⟨A, N, C, hrun, hby, hN⟩ := run_suffix_all (P := Try.prog) HV.out 1 24 5 (by simp) row8
    have hby1 : ∀ W, Bytes W (.slice a (b :: r).length c) (b :: r) → Bytes W (.slice A N C) r := fun W h => by simpa using hby W h
    have HY := Lib.hid hby1
    have hcell : ∃ g o, a = some ⟨g, o, none⟩ ∧ w.cell? ⟨g, o, none⟩ = some (.int .u8 b.toNat) ∧ g < w.heap.size := by
      obtain ⟨a', c', e', _, _, _, h | ⟨g, o, ha, h⟩⟩ := HV.out
      · cases h
      · cases e'
        obtain ⟨u, hu, rfl⟩ := h 0 b rfl
        exact ⟨g, o, ha, hu, block_lt_of_cell hu⟩
    obtain ⟨gb, ob, rfl, hcb, hgb⟩ := hcell
    have hcb2 := (HW.out.cell (p := ⟨gb, ob, none⟩) hgb).trans hcb
    have hB : b.toNat < 256 := b.toNat_lt
    have e1 := HT.out (some (b :: r))
    have e2 := HR.out (some (b :: r))
    have hrun' : ∀ w', (Instr.slice 24 (.slice (some ⟨gb, ob, none⟩) (r.length + 1) c) (some (.int .i64 1)) none none).run Try.prog w' = .ok (.slice A N C) w' := by simpa using hrun
    simp only [List.length_cons] at hmax hmax2 hcap ⊢
    clear hby hby1 hN hcb hrun
    rcases (by omega : b.toNat = 0 ∨ b.toNat = 1 ∨ 1 < b.toNat) with hb | hb | hb
    · have hbo : Rd.bool (some (b :: r)) = (false, some r) := by
        unfold Rd.bool; simp [Rd.take, hb]
      rw [hbo] at e1 e2
      simp only [Bool.false_eq_true, if_false] at e1
      have E1 := Lib.hid e1
      have E2 := Lib.hid e2
      clear e1 e2 hbo
      rw [hb] at hcb2
      clear hb hB
      generalize hg : w.heap.size = g at *
      have HG := Lib.hid hg
      clear hg
      go_wp2_with fail
      go_region
      all_goals
        go_wp2_with fail
        refine bodyPost_ret (v := .tuple #[.agg #[.int .u8 kind, .int .u64 0, .string ⟨#[]⟩, .int .u64 most], .slice A N C, .bool true]) (by simp [results, Try.results18, go_sem, c0, c1, c2, c3]) rfl ?_
        exact rt_fin (b := true) (q := r) HG.out HW.out (by repeat (first | exact Below.refl _ _ | refine Below.drew ?_ | refine bset ?_ _ _ _ (by omega))) E1.out E2.out (fun h => by cases h) HY.out
    · have hbo : Rd.bool (some (b :: r)) = (true, some r) := by
        unfold Rd.bool; simp [Rd.take, hb]
      rw [hbo] at e1 e2
      simp only [if_true] at e1
      have E1 := Lib.hid e1
      have E2 := Lib.hid e2
      clear e1 e2 hbo
      rw [hb] at hcb2
      clear hb hB
      generalize hg : w.heap.size = g at *
      have HG := Lib.hid hg
      clear hg
      go_wp2_with fail
      go_region
      all_goals
        go_wp2_with fail
        refine bodyPost_ret (v := .tuple #[.agg #[.int .u8 kind, .int .u64 1, .string ⟨#[]⟩, .int .u64 most], .slice A N C, .bool true]) (by simp [results, Try.results18, go_sem, c0, c1, c2, c3]) rfl ?_
        exact rt_fin (b := true) (q := r) HG.out HW.out (by repeat (first | exact Below.refl _ _ | refine Below.drew ?_ | refine bset ?_ _ _ _ (by omega))) E1.out E2.out (fun h => by cases h) HY.out
    · have hbo : Rd.bool (some (b :: r)) = (false, none) := by
        exact Prod.ext (decide_eq_false (show ¬ b.toNat = 1 by omega)) (if_pos hb)
      rw [hbo] at e1 e2
      simp only [Bool.false_eq_true, if_false] at e1
      have E1 := Lib.hid e1
      have E2 := Lib.hid e2
      clear e1 e2 hbo
      generalize hg : w.heap.size = g at *
      have HG := Lib.hid hg
      clear hg
      go_wp2_with fail
      all_goals
        refine bodyPost_ret (v := .tuple #[.agg #[.int .u8 kind, .int .u64 0, .string ⟨#[]⟩, .int .u64 most], .slice none 0 0, .bool false]) (by simp [results, Try.results18, go_sem, c0, c1, c2, c3]) rfl ?_
        exact rt_fin (b := false) (q := []) HG.out HW.out (by repeat (first | exact Below.refl _ _ | refine Below.drew ?_ | refine bset ?_ _ _ _ (by omega))) E1.out E2.out (fun _ => rfl) (fun _ _ => (Own8.nil 5 0 _).bytes)
end Go.Proofs.Ytddhnenlfdpomaa
