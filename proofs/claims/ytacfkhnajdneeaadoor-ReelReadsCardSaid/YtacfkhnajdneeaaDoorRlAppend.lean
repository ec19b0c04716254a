/- Walk: a record is appended. -/
import Derived.Test.YtacfkhnajdneeaaDoorPreE
namespace Go.Proofs.YtacfkhnajdneeaaDoor
open Go.RowKit

theorem bytes_full {w : World} {a : Option Addr} {n c : Nat} {l : List UInt8} (h : Bytes w (.slice a n c) l) : Bytes w (.slice a n n) l := by
  obtain ⟨a', c', e, h1, h2, h3, h4⟩ := h
  cases e
  exact ⟨a, _, rfl, h1, Nat.le_refl _, fun e => by have := h3 e; omega, h4⟩
theorem pages_div (a b t : Nat) (h : a ≤ b) : (a / 487 + t) * 487 < b ↔ t < pagesN a b := by
  unfold pagesN
  omega

/-- what an append answers -/
def AppSays (w w' : World) (g gd : Nat) (r : Rl) (d : Dk) (F G : Nat → Prop) (p : List UInt8) (e : Ending) : Prop :=
  (65536 < p.length → e = .returned (.int .i64 4) ∧ Below w.heap.size w w') ∧
  (p.length ≤ 65536 → 487 * r.n < (layAll (r.ls ++ [p])).length → e = .returned (.int .i64 5) ∧ Below w.heap.size w w') ∧
  (p.length ≤ 65536 → (layAll (r.ls ++ [p])).length ≤ 487 * r.n → e = .returned (.int .i64 0) ∧ ∃ F' G', DiskAt w' gd (d.writes (r.pages (layAll (r.ls ++ [p])) ((layAll r.ls).length / 487) (pagesN (layAll r.ls).length (layAll (r.ls ++ [p])).length))) F' ∧
    RlIn w' g gd (r.more p) G' ∧ Moved w w' (fun k => F k ∨ G k) (fun k => F' k ∨ G' k))

set_option maxRecDepth 20000 in
set_option maxHeartbeats 3200000 in
theorem rappend_any (g gd : Nat) (r : Rl) (d : Dk) (F G : Nat → Prop) (v : Value) (p : List UInt8) (w : World) (hd : DiskAt w gd d F) (hr : RlIn w g gd r G) (hv : Rec8 0 w v p) (hpl : p.length ≤ 100000)
    (hroom : (layAll r.ls).length ≤ 487 * r.n) (hn : r.fr + r.n ≤ d.safe.length) (hso : (layAll r.ls).length / 487 ≤ r.so.length) (h32 : ∀ s ∈ r.so, s < 4294967296) (hsl : r.so.length ≤ 1000000) (hgen : r.gen < 4294967296) (hser : r.serial < 4294967296) (hfree : d.Free) (hc : d.count ≤ 900000) (hw : d.wait.length ≤ 900000) (hls : r.ls.length ≤ 1000000) :
    Calls Tryd.prog 24 #[.pointer (some ⟨g, 0, none⟩), v] w fun e w' => AppSays w w' g gd r d F G p e := by
  have hfew := hd.ok.few
  have hn4 : r.fr + r.n ≤ 4096 := by omega
  obtain ⟨vl, vp, vs, hrow, hrl, hrp, hrs, hG⟩ := hr
  obtain ⟨a, c, rfl, hmv, hcv, -, -⟩ := id hv.1
  obtain ⟨a1, c1, rfl, hm1, hc1, -, -⟩ := id hrp.1
  have HFULL := Lib.hid (bytes_full hrp.1)
  have hla : layAll (r.ls ++ [p]) = layAll r.ls ++ layOne p := by rw [layAll_app, layAll_one]
  have hlen1 := congrArg List.length hla
  rw [List.length_append] at hlen1
  have hq1 : (layOne p).length ≤ p.length + 10 ∧ p.length < (layOne p).length := by
    have := (Vi.varint_length p.length)
    unfold layOne
    rw [List.length_append]
    omega
  obtain ⟨st, hst⟩ : ∃ st, st = layAll (r.ls ++ [p]) := ⟨_, rfl⟩
  obtain ⟨M, hM⟩ : ∃ M, M = (layAll r.ls).length := ⟨_, rfl⟩
  obtain ⟨Q, hQ⟩ : ∃ Q, Q = (layOne p).length := ⟨_, rfl⟩
  obtain ⟨L, hL⟩ : ∃ L, L = p.length := ⟨_, rfl⟩
  obtain ⟨A, hA⟩ : ∃ A, A = st.length := ⟨_, rfl⟩
  obtain ⟨m, hm⟩ : ∃ m, m = M / 487 := ⟨_, rfl⟩
  unfold AppSays
  rw [← hst] at hla hlen1 ⊢
  rw [← hA, ← hM, ← hQ] at hlen1
  rw [← hA, ← hM, ← hL, ← hm]
  rw [← hM] at hm1 hc1 hroom hso HFULL hrow
  rw [← hm] at hso
  rw [← hL] at hmv hcv hpl hv
  rw [← hL, ← hQ] at hq1
  have HD := Lib.hid hd
  have HROW := Lib.hid hrow
  have HRL := Lib.hid hrl
  have HRP := Lib.hid hrp
  have HRS := Lib.hid hrs
  have HGG := Lib.hid hG
  have HV := Lib.hid hv
  have HST := Lib.hid hst
  have HLA := Lib.hid hla
  have HM := Lib.hid hM
  have HQ := Lib.hid hQ
  have HL := Lib.hid hL
  have HA := Lib.hid hA
  have HMM := Lib.hid hm
  have HSO := Lib.hid hso
  have HN := Lib.hid hn
  have HC := Lib.hid (And.intro hc hw)
  have HFR := Lib.hid hfree
  have H32 := Lib.hid (And.intro h32 (And.intro hgen hser))
  have HLS := Lib.hid hls
  have HSL := Lib.hid hsl
  have HM1 := Lib.hid (And.intro hm1 hc1)
  clear hd hrow hrl hrp hrs hG hv hst hla hM hQ hL hA hm hso hn hc hw hfree h32 hgen hser hls hfew hsl hmv hcv
  go_enter Tryd.func24, Tryd.ntmps24
  go_wp2_with fail
  refine (rlay_any _ [p] _ (rows_lit1 w _ p _ _ rfl HV.out.1) (fun x hx => by simp at hx; rw [hx, ← HL.out]; omega) (by rw [layAll_one, ← HQ.out]; omega)).mono ?_
  rintro e w2 ⟨v2, rfl, ho2, hb2⟩
  have HB2 := Lib.hid (btr (bal (bre w) (.cells #[.slice a L c] 23)) hb2)
  rw [layAll_one] at ho2
  have HO2 : Hid (Own8 5 0 w2 v2 (layOne p)) := Lib.hid (ownsRow_base ho2 (Nat.zero_le _))
  obtain ⟨a2, c2, rfl, hm2, hc2, -, -⟩ := id ho2.bytes
  rw [← HQ.out] at hm2 hc2 HO2 ⊢
  clear ho2 hb2
  by_cases hlong : 65536 < L
  · have d1 : decide ((65536 : Int) < (L : Int)) = true := decide_eq_true (by omega)
    have d1n : decide (65536 < L) = true := decide_eq_true hlong
    have HLO := Lib.hid hlong
    clear hlong
    go_wp2_with fail
    go_ret
    exact ⟨fun _ => ⟨rfl, HB2.out⟩, fun h => by have := HLO.out; omega, fun h => by have := HLO.out; omega⟩
  · have d1 : decide ((65536 : Int) < (L : Int)) = false := decide_eq_false (by omega)
    have d1n : decide (65536 < L) = false := decide_eq_false hlong
    have hL6 : L ≤ 65536 := by omega
    clear hlong
    go_wp2_with fail
    refine (rroom_any w2 g gd r.gen r.fr r.n r.serial vl vs a1 M c1 (by omega) hroom (HROW.out.below HB2.out)).mono ?_
    rintro e w3 ⟨rfl, hb3⟩
    have HB3 := Lib.hid (btr HB2.out hb3)
    have HO3 := Lib.hid (Own8.kept HO2.out (Nat.le_refl _) hb3)
    obtain ⟨R, hR⟩ : ∃ R, R = 487 * r.n - M := ⟨_, rfl⟩
    rw [← hR]
    clear hb3 HO2 HB2 d1 d1n
    by_cases hno : R < Q
    · have d1 : decide ((R : Int) < (Q : Int)) = true := decide_eq_true (by omega)
      have d1n : decide (R < Q) = true := decide_eq_true hno
      have HLO : Hid (487 * r.n < A) := Lib.hid (by omega)
      clear hno hR
      go_wp2_with fail
      go_ret
      exact ⟨fun h => by omega, fun _ _ => ⟨rfl, HB3.out⟩, fun _ h => by have := HLO.out; omega⟩
    · have d1 : decide ((R : Int) < (Q : Int)) = false := decide_eq_false (by omega)
      have d1n : decide (R < Q) = false := decide_eq_false hno
      have HLO : Hid (A ≤ 487 * r.n) := Lib.hid (by omega)
      clear hno hR
      go_upto_region 8 with fail
      have HROW3 := Lib.hid (HROW.out.below HB3.out)
      have p1 : 0 ≤ (M : Int) := by omega
      clear d1 d1n
      refine region_anyZ (z := 17) (S := fun w' => w'.cell? ⟨g, 5, none⟩ = some (.slice a1 M c1)) (by kernel_rfl) ?_
      refine anyZ_begin (fun hcl0 => ?_)
      refine anyZ_held (by exact HROW3.out.c5) (fun hHeld => ?_)
      -- 0: Op.move (Operand.tmp 0)
      refine' anyZ_pure (i := 0) (v := _) rfl (by rfl) (by kernel_rfl) (by kernel_rfl) (by kernel_rfl) hcl0 (fun _ _ _ h => h) (Or.inl ⟨by rfl, fun w _ => ?hz1⟩) (fun _ => hHeld) (fun hcl1 => ?rz1)
      case hz1 => (simp only [List.getElem_toArray, List.getElem_cons_zero]; first | (go_simp; with_reducible rfl) | (go_simp; done) | rfl)
      simp only [List.getElem_toArray, List.getElem_cons_zero, Act.put, List.setIfInBounds_toArray, List.set_cons_zero, List.set_cons_succ]
      -- 1: Op.nilCheck (Operand.tmp 24)
      refine' anyZ_pure (i := 1) (v := _) rfl (by rfl) (by kernel_rfl) (by kernel_rfl) (by kernel_rfl) hcl1 (fun _ _ _ h => h) (Or.inl ⟨by rfl, fun w _ => ?hz2⟩) (fun _ => hHeld) (fun hcl2 => ?rz2)
      case hz2 => (simp only [List.getElem_toArray, List.getElem_cons_succ, List.getElem_cons_zero]; first | (go_simp; with_reducible rfl) | (go_simp; done) | rfl)
      simp only [List.getElem_toArray, List.getElem_cons_succ, List.getElem_cons_zero, Act.put, List.setIfInBounds_toArray, List.set_cons_zero, List.set_cons_succ]
      -- 2: Op.fieldAddr 99 (Operand.tmp 25) 5
      refine' anyZ_pure (i := 2) (v := _) rfl (by rfl) (by kernel_rfl) (by kernel_rfl) (by kernel_rfl) hcl2 (fun _ _ _ h => h) (Or.inl ⟨by rfl, fun w _ => ?hz3⟩) (fun _ => hHeld) (fun hcl3 => ?rz3)
      case hz3 => (simp only [List.getElem_toArray, List.getElem_cons_succ, List.getElem_cons_zero]; first | (go_simp; with_reducible rfl) | (go_simp; done) | rfl)
      simp only [List.getElem_toArray, List.getElem_cons_succ, List.getElem_cons_zero, Act.put, List.setIfInBounds_toArray, List.set_cons_zero, List.set_cons_succ]
      -- 3: Op.load 23 (Operand.tmp 26)
      refine' anyZ_take (i := 3) (v := _) rfl (by rfl) (by kernel_rfl) (by kernel_rfl) (by kernel_rfl) hcl3 8 (by kernel_rfl) (by kernel_rfl) (fun _ _ _ h => h) (Or.inl ⟨by rfl, fun w hSw => ?hz4⟩) hHeld (fun hcl4 => ?rz4)
      case hz4 => (simp only [List.getElem_toArray, List.getElem_cons_succ, List.getElem_cons_zero]; have hS1 := hSw; first | (go_simp; with_reducible rfl) | (go_simp; done) | rfl)
      simp only [List.getElem_toArray, List.getElem_cons_succ, List.getElem_cons_zero, Act.put, List.setIfInBounds_toArray, List.set_cons_zero, List.set_cons_succ]
      -- 4: Op.move (Operand.tmp 0)
      refine' anyZ_pure (i := 4) (v := _) rfl (by rfl) (by kernel_rfl) (by kernel_rfl) (by kernel_rfl) hcl4 (fun _ _ _ h => h) (Or.inl ⟨by rfl, fun w _ => ?hz5⟩) (fun _ => hHeld) (fun hcl5 => ?rz5)
      case hz5 => (simp only [List.getElem_toArray, List.getElem_cons_succ, List.getElem_cons_zero]; first | (go_simp; with_reducible rfl) | (go_simp; done) | rfl)
      simp only [List.getElem_toArray, List.getElem_cons_succ, List.getElem_cons_zero, Act.put, List.setIfInBounds_toArray, List.set_cons_zero, List.set_cons_succ]
      -- 5: Op.nilCheck (Operand.tmp 28)
      refine' anyZ_pure (i := 5) (v := _) rfl (by rfl) (by kernel_rfl) (by kernel_rfl) (by kernel_rfl) hcl5 (fun _ _ _ h => h) (Or.inl ⟨by rfl, fun w _ => ?hz6⟩) (fun _ => hHeld) (fun hcl6 => ?rz6)
      case hz6 => (simp only [List.getElem_toArray, List.getElem_cons_succ, List.getElem_cons_zero]; first | (go_simp; with_reducible rfl) | (go_simp; done) | rfl)
      simp only [List.getElem_toArray, List.getElem_cons_succ, List.getElem_cons_zero, Act.put, List.setIfInBounds_toArray, List.set_cons_zero, List.set_cons_succ]
      -- 6: Op.fieldAddr 99 (Operand.tmp 29) 5
      refine' anyZ_pure (i := 6) (v := _) rfl (by rfl) (by kernel_rfl) (by kernel_rfl) (by kernel_rfl) hcl6 (fun _ _ _ h => h) (Or.inl ⟨by rfl, fun w _ => ?hz7⟩) (fun _ => hHeld) (fun hcl7 => ?rz7)
      case hz7 => (simp only [List.getElem_toArray, List.getElem_cons_succ, List.getElem_cons_zero]; first | (go_simp; with_reducible rfl) | (go_simp; done) | rfl)
      simp only [List.getElem_toArray, List.getElem_cons_succ, List.getElem_cons_zero, Act.put, List.setIfInBounds_toArray, List.set_cons_zero, List.set_cons_succ]
      -- 7: Op.load 23 (Operand.tmp 30)
      refine' anyZ_take (i := 7) (v := _) rfl (by rfl) (by kernel_rfl) (by kernel_rfl) (by kernel_rfl) hcl7 8 (by kernel_rfl) (by kernel_rfl) (fun _ _ _ h => h) (Or.inl ⟨by rfl, fun w hSw => ?hz8⟩) hHeld (fun hcl8 => ?rz8)
      case hz8 => (simp only [List.getElem_toArray, List.getElem_cons_succ, List.getElem_cons_zero]; have hS1 := hSw; first | (go_simp; with_reducible rfl) | (go_simp; done) | rfl)
      simp only [List.getElem_toArray, List.getElem_cons_succ, List.getElem_cons_zero, Act.put, List.setIfInBounds_toArray, List.set_cons_zero, List.set_cons_succ]
      -- 8: Op.call { callee := Callee.builtin Builtin.len, args := #[Op
      refine' anyZ_pure (i := 8) (v := _) rfl (by rfl) (by kernel_rfl) (by kernel_rfl) (by kernel_rfl) hcl8 (fun _ _ _ h => h) (Or.inl ⟨by rfl, fun w _ => ?hz9⟩) (fun _ => hHeld) (fun hcl9 => ?rz9)
      case hz9 => (simp only [List.getElem_toArray, List.getElem_cons_succ, List.getElem_cons_zero]; first | (go_simp; with_reducible rfl) | (go_simp; done) | rfl)
      simp only [List.getElem_toArray, List.getElem_cons_succ, List.getElem_cons_zero, Act.put, List.setIfInBounds_toArray, List.set_cons_zero, List.set_cons_succ]
      -- 9: Op.move (Operand.tmp 0)
      refine' anyZ_pure (i := 9) (v := _) rfl (by rfl) (by kernel_rfl) (by kernel_rfl) (by kernel_rfl) hcl9 (fun _ _ _ h => h) (Or.inl ⟨by rfl, fun w _ => ?hz10⟩) (fun _ => hHeld) (fun hcl10 => ?rz10)
      case hz10 => (simp only [List.getElem_toArray, List.getElem_cons_succ, List.getElem_cons_zero]; first | (go_simp; with_reducible rfl) | (go_simp; done) | rfl)
      simp only [List.getElem_toArray, List.getElem_cons_succ, List.getElem_cons_zero, Act.put, List.setIfInBounds_toArray, List.set_cons_zero, List.set_cons_succ]
      -- 10: Op.nilCheck (Operand.tmp 33)
      refine' anyZ_pure (i := 10) (v := _) rfl (by rfl) (by kernel_rfl) (by kernel_rfl) (by kernel_rfl) hcl10 (fun _ _ _ h => h) (Or.inl ⟨by rfl, fun w _ => ?hz11⟩) (fun _ => hHeld) (fun hcl11 => ?rz11)
      case hz11 => (simp only [List.getElem_toArray, List.getElem_cons_succ, List.getElem_cons_zero]; first | (go_simp; with_reducible rfl) | (go_simp; done) | rfl)
      simp only [List.getElem_toArray, List.getElem_cons_succ, List.getElem_cons_zero, Act.put, List.setIfInBounds_toArray, List.set_cons_zero, List.set_cons_succ]
      -- 11: Op.fieldAddr 99 (Operand.tmp 34) 5
      refine' anyZ_pure (i := 11) (v := _) rfl (by rfl) (by kernel_rfl) (by kernel_rfl) (by kernel_rfl) hcl11 (fun _ _ _ h => h) (Or.inl ⟨by rfl, fun w _ => ?hz12⟩) (fun _ => hHeld) (fun hcl12 => ?rz12)
      case hz12 => (simp only [List.getElem_toArray, List.getElem_cons_succ, List.getElem_cons_zero]; first | (go_simp; with_reducible rfl) | (go_simp; done) | rfl)
      simp only [List.getElem_toArray, List.getElem_cons_succ, List.getElem_cons_zero, Act.put, List.setIfInBounds_toArray, List.set_cons_zero, List.set_cons_succ]
      -- 12: Op.load 23 (Operand.tmp 35)
      refine' anyZ_take (i := 12) (v := _) rfl (by rfl) (by kernel_rfl) (by kernel_rfl) (by kernel_rfl) hcl12 8 (by kernel_rfl) (by kernel_rfl) (fun _ _ _ h => h) (Or.inl ⟨by rfl, fun w hSw => ?hz13⟩) hHeld (fun hcl13 => ?rz13)
      case hz13 => (simp only [List.getElem_toArray, List.getElem_cons_succ, List.getElem_cons_zero]; have hS1 := hSw; first | (go_simp; with_reducible rfl) | (go_simp; done) | rfl)
      simp only [List.getElem_toArray, List.getElem_cons_succ, List.getElem_cons_zero, Act.put, List.setIfInBounds_toArray, List.set_cons_zero, List.set_cons_succ]
      -- 13: Op.call { callee := Callee.builtin Builtin.len, args := #[Op
      refine' anyZ_pure (i := 13) (v := _) rfl (by rfl) (by kernel_rfl) (by kernel_rfl) (by kernel_rfl) hcl13 (fun _ _ _ h => h) (Or.inl ⟨by rfl, fun w _ => ?hz14⟩) (fun _ => hHeld) (fun hcl14 => ?rz14)
      case hz14 => (simp only [List.getElem_toArray, List.getElem_cons_succ, List.getElem_cons_zero]; first | (go_simp; with_reducible rfl) | (go_simp; done) | rfl)
      simp only [List.getElem_toArray, List.getElem_cons_succ, List.getElem_cons_zero, Act.put, List.setIfInBounds_toArray, List.set_cons_zero, List.set_cons_succ]
      -- 14: Op.slice 23 (Operand.tmp 27) none (some (Operand.tmp 32)) (s
      refine' anyZ_pure (i := 14) (v := _) rfl (by rfl) (by kernel_rfl) (by kernel_rfl) (by kernel_rfl) hcl14 (fun _ _ _ h => h) (Or.inl ⟨by rfl, fun w _ => ?hz15⟩) (fun _ => hHeld) (fun hcl15 => ?rz15)
      case hz15 => (simp only [List.getElem_toArray, List.getElem_cons_succ, List.getElem_cons_zero]; first | (go_simp; with_reducible rfl) | (go_simp; done) | rfl)
      simp only [List.getElem_toArray, List.getElem_cons_succ, List.getElem_cons_zero, Act.put, List.setIfInBounds_toArray, List.set_cons_zero, List.set_cons_succ]
      -- 15: Op.move (Operand.tmp 5)
      refine' anyZ_pure (i := 15) (v := _) rfl (by rfl) (by kernel_rfl) (by kernel_rfl) (by kernel_rfl) hcl15 (fun _ _ _ h => h) (Or.inl ⟨by rfl, fun w _ => ?hz16⟩) (fun _ => hHeld) (fun hcl16 => ?rz16)
      case hz16 => (simp only [List.getElem_toArray, List.getElem_cons_succ, List.getElem_cons_zero]; first | (go_simp; with_reducible rfl) | (go_simp; done) | rfl)
      simp only [List.getElem_toArray, List.getElem_cons_succ, List.getElem_cons_zero, Act.put, List.setIfInBounds_toArray, List.set_cons_zero, List.set_cons_succ]
      -- 16: Op.call { callee := Callee.builtin Builtin.append, args := #
      refine anyZ_one (i := 16) hcl16 (by kernel_rfl) (by simp only [List.getElem?_toArray, List.getElem?_cons_succ, List.getElem?_cons_zero]; rfl) (by rfl) (fun hcl17 K hK => ?_)
      refine wp_appFull _ _ 23 5 row8 rfl a1 M (layAll r.ls) rfl (HFULL.out.below (btr HB3.out (bdr (bre w3)))) _ (layOne p) rfl (HO3.out.bytes.below (bdr (bre w3))) (by rw [← HQ.out]; omega) (by rw [← HQ.out, ← HM.out]; omega) ?_
      intro va w4 ho4 hb4
      have hb4' := btr (bdr (bre w3)) hb4
      have HB4 := Lib.hid (btr HB3.out hb4')
      rw [← HLA.out] at ho4
      have HO4 : Hid (Own8 5 0 w4 va st) := Lib.hid (ownsRow_base ho4 (Nat.zero_le _))
      refine hK _ _ (fun _ => ?_) ?_
      · exact HROW3.out.below hb4' |>.c5
      clear hK K hHeld
      try simp only [Act.put, List.setIfInBounds_toArray, List.set_cons_zero, List.set_cons_succ]
      refine anyZ_chain_at (by kernel_rfl) ?_
      simp only [List.drop_succ_cons, List.drop_zero]
      obtain ⟨a4, c4, hva, hac4⟩ : ∃ a c, va = .slice a A c ∧ A ≤ c := by
        obtain ⟨a, c, e, h1, h2, -⟩ := HO4.out.bytes
        exact ⟨a, c, by rw [e, ← HA.out], by rw [HA.out]; exact h2⟩
      subst hva
      have hMA : M ≤ A := by omega
      have hA6 : A ≤ 10000000 := by have := HLO.out; omega
      clear hlen1
      have HAP : Hid (ApSt w w4 g gd r F vl (.slice a1 M c1) vs (.slice a4 A c4) (.slice a L c) st p (d.writes (r.pages st m 0)) F (r.soAt m 0) vs) := Lib.hid ⟨HD.out.below HB4.out, HROW.out.below HB4.out, HRL.out.below HB4.out, own_only HRS.out (Only.of_below HB4.out fun _ => False) (fun _ _ h => h), HO4.out, HV.out.below HB4.out, Only.of_below HB4.out _, fun _ h => .inl h, fun _ h => .inl h⟩
      have x5 := HAP.out.row.c5
      have hdiv : (M : Int) / 487 = (m : Int) := by rw [HMM.out]; omega
      have hpn : m + pagesN M A ≤ 5000 := by unfold pagesN; rw [HMM.out]; have := HLO.out; omega
      clear HB3 HO3 HB4 HO4 HROW3 p1 ho4 hb4 hb4'
      go_wp2_with fail
      clear x5 hdiv
      go_loopw [7, 8] (fun i _ wr => ∃ (t : Nat) (F' : Nat → Prop) (vs' : Value), t ≤ pagesN M A ∧ i = .int .i64 ((m + t : Nat) : Int) ∧ Hid (ApSt w wr g gd r F vl (.slice a1 M c1) vs (.slice a4 A c4) (.slice a L c) st p (d.writes (r.pages st m t)) F' (r.soAt m t) vs')) (fun i _ _ => m + pagesN M A - (intOf i).toNat)
      case atStart => exact ⟨0, F, vs, Nat.zero_le _, rfl, HAP⟩
      case round =>
        obtain ⟨t, F', vs', ht, rfl, hap⟩ := hrel
        obtain ⟨i, hi⟩ : ∃ i, i = m + t := ⟨_, rfl⟩
        rw [← hi]
        have HI := Lib.hid hi
        have hi5 : i ≤ 5000 := by omega
        obtain ⟨K0, hK0⟩ : ∃ k, k = i * 487 := ⟨_, rfl⟩
        obtain ⟨K1, hK1⟩ : ∃ k, k = (i + 1) * 487 := ⟨_, rfl⟩
        have m1 : (i : Int) * 487 = (K0 : Int) := by omega
        have m2 : ((i : Int) + 1) * 487 = (K1 : Int) := by omega
        have k1 : IntKind.i64.wrap (K0 : Int) = (K0 : Int) := by rw [IntKind.wrap_i64]; omega
        have k2 : IntKind.i64.wrap (K1 : Int) = (K1 : Int) := by rw [IntKind.wrap_i64]; omega
        have hpd := pages_div M A t (by omega)
        rw [← HMM.out, ← hi, ← hK0] at hpd
        clear hi
        by_cases hlt : t < pagesN M A
        · have hKA := hpd.2 hlt
          have d1 : decide ((K0 : Int) < (A : Int)) = true := decide_eq_true (by omega)
          have d1n : decide (K0 < A) = true := decide_eq_true hKA
          obtain ⟨J, hJ⟩ : ∃ j, j = min K1 A := ⟨_, rfl⟩
          have HJ := Lib.hid hJ
          have hJA : J ≤ st.length := by rw [← HA.out]; omega
          have y12 := Bytes.suffix (SliceOf.firsts hap.out.all.bytes J hJA) K0 (by rw [List.length_take]; omega)
          rw [if_neg (by omega)] at y12
          have hJK : (st.take J).drop K0 = chunk st i := by
            unfold chunk
            rw [List.drop_take, ← hK0]
            by_cases hh : K1 ≤ A
            · rw [hJ, Nat.min_eq_left hh]; congr 1; omega
            · rw [hJ, Nat.min_eq_right (by omega), List.take_of_length_le (by rw [List.length_drop, HA.out]; exact Nat.le_refl _), List.take_of_length_le (by rw [List.length_drop, ← HA.out]; omega)]
          rw [hJK] at y12
          have HY12 := Lib.hid y12
          have HX := Lib.hid hap.out.row
          have hcl : (chunk st i).length ≤ 487 := by rw [chunk_len]; omega
          have HCL := Lib.hid hcl
          have HK0 := Lib.hid hK0
          have HK1 := Lib.hid hK1
          have HKA := Lib.hid hKA
          have hk0J : K0 ≤ J := by omega
          have hJc : J ≤ c4 := by omega
          clear y12 hJ hJA hcl hpd hJK hK0 hK1
          go_wp2_with (with_reducible refine wpList_min rfl _ _ _ rfl _ _ _ rfl rfl ?_; intro rr hrr; have hrj : rr = (J : Int) := (by have h1 := hrr.out; have h2 := HJ.out; split at h1 <;> omega); subst hrj; clear hrr)
          obtain ⟨q1, q2, q3, q4⟩ := Dk.writes_are (r.pages st m t) d HFR.out
          rw [Rl.pages_len] at q3
          have hin : i < r.n := by have h1 := HLO.out; have h2 := HKA.out; have h3 := HK0.out; omega
          have hiP : i < m + pagesN M A := by have := HI.out; omega
          have hsoi : i ≤ (r.soAt m t).length := by rw [HI.out]; exact Rl.soAt_len HSO.out t
          refine (rwrite_any g gd r.gen r.fr r.n r.serial i vl (.slice a1 M c1) vs' _ (r.soAt m t) (chunk st i) (d.writes (r.pages st m t)) F' wr hap.out.dk hap.out.row hap.out.s HY12.out HCL.out (by rw [q1]; have := HN.out; omega) hsoi (Rl.soAt_lt H32.out.1 H32.out.2.2 m t) H32.out.2.1 H32.out.2.2 q4 (by rw [q3]; have := HC.out.1; omega) (by rw [q2, List.length_append, Rl.pages_len]; have := HC.out.2; omega)).mono ?_
          rintro e w5 ⟨vs5, F5, rfl, hd5, hr5, hs5, ho5, w6, hon6, hd6, hm6⟩
          have e1 : (r.soAt m t).take i ++ [r.serial] = r.soAt m (t + 1) := by rw [HI.out]; exact Rl.soAt_next HSO.out t
          have e2 : (r.soAt m (t + 1)).length = i + 1 := by rw [← e1, List.length_append, List.length_take, Nat.min_eq_left hsoi]; rfl
          have e3 : (d.writes (r.pages st m t)).wrote (r.fr + i) (pgBytes r.gen r.serial i (aheadOf (r.soAt m t) i) (chunk st i)) = d.writes (r.pages st m (t + 1)) := by
            rw [Rl.pages_next, Dk.writes_snoc, HI.out, Rl.ahead_at HSO.out t]
            rfl
          rw [e3] at hd5
          rw [e1, ← e2] at hs5
          have HAP2 := Lib.hid (hap.out.step hon6 hd6 hm6 hd5 hr5 hs5 ho5)
          clear hd5 hr5 hs5 ho5 hon6 hd6 hm6 e1 e2 e3 q1 q2 q3 q4 hsoi hin HX HY12 hap
          go_wp2_with fail
          go_roundw
          case rel => exact ⟨t + 1, F5, vs5, by omega, by rw [show ((m + (t + 1) : Nat) : Int) = (i : Int) + 1 by have := HI.out; omega], HAP2⟩
          case measure => simp [intOf]; omega
        · have hno := mt hpd.1 hlt
          have htP : t = pagesN M A := by omega
          have d1 : decide ((K0 : Int) < (A : Int)) = false := decide_eq_false (by omega)
          have d1n : decide (K0 < A) = false := decide_eq_false hno
          rw [htP] at hap
          have HAP3 := hap
          clear hpd hlt hno htP hap hK0 hK1
          go_upto_region 15 with fail
          obtain ⟨us, qr1, qr2, qr3⟩ := id HAP3.out.ls
          obtain ⟨al, cl, hvl, -, -, -, -, -⟩ := ownsRow_lies qr2
          subst hvl
          obtain ⟨NL, hNL⟩ : ∃ n, n = us.length := ⟨_, rfl⟩
          have hvl2 : Value.slice al us.length cl = .slice al NL cl := by rw [hNL]
          rw [hvl2] at HAP3
          clear qr1 qr2 qr3 d1 d1n m1 m2 k1 k2
          refine region_anyZ (z := 11) (S := fun w' => w'.cell? ⟨g, 4, none⟩ = some (.slice al NL cl)) (by kernel_rfl) ?_
          refine anyZ_begin (fun hcl0 => ?_)
          refine anyZ_held (by exact (HAP3.out.below (bdr (bre wr))).row.c4) (fun hHeld => ?_)
          -- 0: Op.move (Operand.tmp 0)
          refine' anyZ_pure (i := 0) (v := _) rfl (by rfl) (by kernel_rfl) (by kernel_rfl) (by kernel_rfl) hcl0 (fun _ _ _ h => h) (Or.inl ⟨by rfl, fun w _ => ?ht1⟩) (fun _ => hHeld) (fun hcl1 => ?rt1)
          case ht1 => (simp only [List.getElem_toArray, List.getElem_cons_zero]; first | (go_simp; with_reducible rfl) | (go_simp; done) | rfl)
          simp only [List.getElem_toArray, List.getElem_cons_zero, Act.put, List.setIfInBounds_toArray, List.set_cons_zero, List.set_cons_succ]
          -- 1: Op.move (Operand.tmp 0)
          refine' anyZ_pure (i := 1) (v := _) rfl (by rfl) (by kernel_rfl) (by kernel_rfl) (by kernel_rfl) hcl1 (fun _ _ _ h => h) (Or.inl ⟨by rfl, fun w _ => ?ht2⟩) (fun _ => hHeld) (fun hcl2 => ?rt2)
          case ht2 => (simp only [List.getElem_toArray, List.getElem_cons_succ, List.getElem_cons_zero]; first | (go_simp; with_reducible rfl) | (go_simp; done) | rfl)
          simp only [List.getElem_toArray, List.getElem_cons_succ, List.getElem_cons_zero, Act.put, List.setIfInBounds_toArray, List.set_cons_zero, List.set_cons_succ]
          -- 2: Op.move (Operand.tmp 6)
          refine' anyZ_pure (i := 2) (v := _) rfl (by rfl) (by kernel_rfl) (by kernel_rfl) (by kernel_rfl) hcl2 (fun _ _ _ h => h) (Or.inl ⟨by rfl, fun w _ => ?ht3⟩) (fun _ => hHeld) (fun hcl3 => ?rt3)
          case ht3 => (simp only [List.getElem_toArray, List.getElem_cons_succ, List.getElem_cons_zero]; first | (go_simp; with_reducible rfl) | (go_simp; done) | rfl)
          simp only [List.getElem_toArray, List.getElem_cons_succ, List.getElem_cons_zero, Act.put, List.setIfInBounds_toArray, List.set_cons_zero, List.set_cons_succ]
          -- 3: Op.move (Operand.tmp 0)
          refine' anyZ_pure (i := 3) (v := _) rfl (by rfl) (by kernel_rfl) (by kernel_rfl) (by kernel_rfl) hcl3 (fun _ _ _ h => h) (Or.inl ⟨by rfl, fun w _ => ?ht4⟩) (fun _ => hHeld) (fun hcl4 => ?rt4)
          case ht4 => (simp only [List.getElem_toArray, List.getElem_cons_succ, List.getElem_cons_zero]; first | (go_simp; with_reducible rfl) | (go_simp; done) | rfl)
          simp only [List.getElem_toArray, List.getElem_cons_succ, List.getElem_cons_zero, Act.put, List.setIfInBounds_toArray, List.set_cons_zero, List.set_cons_succ]
          -- 4: Op.nilCheck (Operand.tmp 73)
          refine' anyZ_pure (i := 4) (v := _) rfl (by rfl) (by kernel_rfl) (by kernel_rfl) (by kernel_rfl) hcl4 (fun _ _ _ h => h) (Or.inl ⟨by rfl, fun w _ => ?ht5⟩) (fun _ => hHeld) (fun hcl5 => ?rt5)
          case ht5 => (simp only [List.getElem_toArray, List.getElem_cons_succ, List.getElem_cons_zero]; first | (go_simp; with_reducible rfl) | (go_simp; done) | rfl)
          simp only [List.getElem_toArray, List.getElem_cons_succ, List.getElem_cons_zero, Act.put, List.setIfInBounds_toArray, List.set_cons_zero, List.set_cons_succ]
          -- 5: Op.fieldAddr 99 (Operand.tmp 74) 4
          refine' anyZ_pure (i := 5) (v := _) rfl (by rfl) (by kernel_rfl) (by kernel_rfl) (by kernel_rfl) hcl5 (fun _ _ _ h => h) (Or.inl ⟨by rfl, fun w _ => ?ht6⟩) (fun _ => hHeld) (fun hcl6 => ?rt6)
          case ht6 => (simp only [List.getElem_toArray, List.getElem_cons_succ, List.getElem_cons_zero]; first | (go_simp; with_reducible rfl) | (go_simp; done) | rfl)
          simp only [List.getElem_toArray, List.getElem_cons_succ, List.getElem_cons_zero, Act.put, List.setIfInBounds_toArray, List.set_cons_zero, List.set_cons_succ]
          -- 6: Op.load 22 (Operand.tmp 75)
          refine' anyZ_take (i := 6) (v := _) rfl (by rfl) (by kernel_rfl) (by kernel_rfl) (by kernel_rfl) hcl6 8 (by kernel_rfl) (by kernel_rfl) (fun _ _ _ h => h) (Or.inl ⟨by rfl, fun w hSw => ?ht7⟩) hHeld (fun hcl7 => ?rt7)
          case ht7 => (simp only [List.getElem_toArray, List.getElem_cons_succ, List.getElem_cons_zero]; have hS1 := hSw; first | (go_simp; with_reducible rfl) | (go_simp; done) | rfl)
          simp only [List.getElem_toArray, List.getElem_cons_succ, List.getElem_cons_zero, Act.put, List.setIfInBounds_toArray, List.set_cons_zero, List.set_cons_succ]
          -- 7: Op.move (Operand.tmp 1)
          refine' anyZ_pure (i := 7) (v := _) rfl (by rfl) (by kernel_rfl) (by kernel_rfl) (by kernel_rfl) hcl7 (fun _ _ _ h => h) (Or.inl ⟨by rfl, fun w _ => ?ht8⟩) (fun _ => hHeld) (fun hcl8 => ?rt8)
          case ht8 => (simp only [List.getElem_toArray, List.getElem_cons_succ, List.getElem_cons_zero]; first | (go_simp; with_reducible rfl) | (go_simp; done) | rfl)
          simp only [List.getElem_toArray, List.getElem_cons_succ, List.getElem_cons_zero, Act.put, List.setIfInBounds_toArray, List.set_cons_zero, List.set_cons_succ]
          -- 8: Op.call { callee := Callee.value (Operand.func 55), args := 
          refine anyZ_one (i := 8) hcl8 (by kernel_rfl) (by simp only [List.getElem?_toArray, List.getElem?_cons_succ, List.getElem?_cons_zero]; rfl) (by rfl) (fun hcl9 K hK => ?_)
          go_simp
          refine (clone_any _ p _ (HAP3.out.below (bdr (bre wr))).p.1 (by rw [← HL.out]; omega)).mono ?_
          rintro e w8 ⟨v8, rfl, ho8, hb8⟩
          have HAP8 := Lib.hid ((HAP3.out.below (bdr (bre wr))).below hb8)
          have HRC8 := Lib.hid ((Rec8.of_own ho8).low (Nat.zero_le _))
          obtain ⟨a8, n8, c8, rfl⟩ := Rec8.isSlice HRC8.out
          clear ho8 hb8
          refine hK _ _ (fun _ => ?_) ?_
          · exact HAP8.out.row.c4
          clear hK K hHeld
          have hHeld := HAP8.out.row.c4
          try simp only [Act.put, List.setIfInBounds_toArray, List.set_cons_zero, List.set_cons_succ]
          -- 9: Op.buildSlice 22 1 #[(0, Operand.tmp 78)]
          refine anyZ_one (i := 9) hcl9 (by kernel_rfl) (by simp only [List.getElem?_toArray, List.getElem?_cons_succ, List.getElem?_cons_zero]; rfl) (by rfl) (fun hcl10 K hK => ?_)
          go_simp
          have hb9 := bal (bre w8) (.cells #[.slice a8 n8 c8] 23)
          have HNEW := Lib.hid (new1 w8 (.slice a8 n8 c8) 23)
          have HAP9 := Lib.hid (HAP8.out.below hb9)
          have HRC9 := Lib.hid (HRC8.out.below hb9)
          generalize w8.alloc (.cells #[.slice a8 n8 c8] 23) = w9 at *
          obtain ⟨n9, hn9⟩ : ∃ n, n = w8.heap.size := ⟨_, rfl⟩
          rw [← hn9] at HNEW
          try rw [← hn9]
          clear hb9 hn9 HAP8 HRC8
          refine hK _ _ (fun _ => ?_) ?_
          · exact HAP9.out.row.c4
          clear hK K hHeld
          have hHeld := HAP9.out.row.c4
          try simp only [Act.put, List.setIfInBounds_toArray, List.set_cons_zero, List.set_cons_succ]
          -- 10: Op.call { callee := Callee.builtin Builtin.append, args := #
          refine anyZ_one (i := 10) hcl10 (by kernel_rfl) (by simp only [List.getElem?_toArray, List.getElem?_cons_succ, List.getElem?_cons_zero]; rfl) (by rfl) (fun hcl11 K hK => ?_)
          refine wp_appRec _ _ rfl 0 _ r.ls rfl HAP9.out.ls _ p HRC9.out ⟨n9, 0, none⟩ rfl HNEW.out (by have := HLS.out; omega) (Nat.zero_le _) ?_
          intro vl' w10 hrl hol hsl
          have HRL10 := Lib.hid hrl
          have HOL10 := Lib.hid hol
          have HSL10 := Lib.hid hsl
          obtain ⟨us2, -, hus2, -⟩ := id hrl
          obtain ⟨al2, cl2, hvl3, -, -, -, -, -⟩ := ownsRow_lies hus2
          subst hvl3
          obtain ⟨us9, -, hus9, -⟩ := id HAP9.out.ls
          have HROW10 := Lib.hid (HAP9.out.row.only HOL10.out (own_ne hus9 HAP9.out.row (by decide)))
          have hD10 := HAP9.out.dk.only hol fun k hF hk => by obtain ⟨cur, hc⟩ := own_block hus9 hk; exact HAP9.out.dk.apartT hc (by decide) (by decide) (by decide) hF
          have hS10 := own_only HAP9.out.s hol (own_apart2 HAP9.out.s hus9 (by decide))
          have hA10 : Own8 5 0 w10 (.slice a4 A c4) st := own_only HAP9.out.all hol (own_apart2 HAP9.out.all hus9 (by decide))
          have HX10 := Lib.hid (And.intro hD10 (And.intro hS10 hA10))
          clear hrl hol hsl hus9 hD10 hS10 hA10
          refine hK _ _ (fun _ => ?_) ?_
          · exact HROW10.out.c4
          clear hK K hHeld
          try simp only [Act.put, List.setIfInBounds_toArray, List.set_cons_zero, List.set_cons_succ]
          refine anyZ_chain_at (by kernel_rfl) ?_
          simp only [List.drop_succ_cons, List.drop_zero]
          have x4 := HROW10.out.c4
          have x5 := HROW10.out.c5
          have fz := HROW10.out.fz
          go_wp2_with fail
          have hP5 := HROW10.out.put5 (.slice a4 A c4)
          have hP4 := hP5.put4 (.slice al2 us2.length cl2)
          have hon := (Only.setCell w10 ⟨g, 5, none⟩ (.slice a4 A c4)).trans (Only.setCell _ ⟨g, 4, none⟩ (.slice al2 us2.length cl2)) fun _ _ e => e
          have h8 : ∀ k, k = g → ∀ cs fr, w10.heap[k]? ≠ some (.cells cs 5 fr) := fun k e cs fr hh => by
            rw [e, HROW10.out] at hh
            cases hh
          obtain ⟨hD10, hS10, hA10⟩ := HX10.out
          have hmore : r.more p = ⟨r.gen, r.fr, r.n, r.serial, r.ls ++ [p], r.soAt m (pagesN M A)⟩ := by
            unfold Rl.more
            rw [← HST.out, ← HM.out, ← HA.out, ← HMM.out]
          have hfin : ∃ G', RlIn ((w10.setCell ⟨g, 5, none⟩ (.slice a4 A c4)).setCell ⟨g, 4, none⟩ (.slice al2 us2.length cl2)) g gd (r.more p) G' ∧ ∀ k, G' k ↔ (k = g ∨ (Value.slice al2 us2.length cl2).ownBlock = some k ∨ vs'.ownBlock = some k) := by
            rw [hmore]
            obtain ⟨us3, -, hus3, -⟩ := id HRL10.out
            refine ⟨_, ⟨_, _, vs', hP4, HRL10.out.only hon fun k e => ⟨h8 k e, fun hk => ?_⟩, ?_, own_only hS10 hon fun k hk e => ?_, fun k => Iff.rfl⟩, fun k => Iff.rfl⟩
            · have e' : k = g := e
              rw [e'] at hk
              exact own_ne hus3 HROW10.out (by decide) hk
            · show Rec8 0 _ _ (layAll (r.ls ++ [p]))
              rw [← HST.out]
              exact (Rec8.of_own hA10).only hon h8
            · have e' : k = g := e
              rw [e'] at hk
              exact own_ne hS10 HROW10.out (by decide) hk
          obtain ⟨G', hG1, hG2⟩ := hfin
          have hg0 : w.heap.size ≤ w9.heap.size := HAP9.out.only.size
          go_ret
          refine ⟨fun h => by omega, fun h => by have := HLO.out; omega, fun _ => ⟨rfl, F', hD10.only hon fun k hF e => ?_, G', hG1, ?_, fun k hk => ?_⟩⟩
          · have e' : k = g := e
            rw [e'] at hF
            exact hD10.apartT HROW10.out (by decide) (by decide) (by decide) hF
          · refine Only.mono (((HAP9.out.only.mono (T := fun k => F k ∨ G k) fun k _ h => ?_).trans HOL10.out fun k _ e => .inr ((HGG.out k).2 (.inr (.inl (by cases al <;> exact e))))).trans hon fun k _ e => .inr ((HGG.out k).2 (.inl e))) fun k _ h => h
            rcases h with h | h | h
            · exact .inl h
            · exact .inr ((HGG.out k).2 (.inl h))
            · exact .inr ((HGG.out k).2 (.inr (.inr h)))
          · rcases hk with hk | hk
            · rcases HAP9.out.f1 k hk with h | h
              · exact .inl (.inl h)
              · exact .inr h
            · rcases (hG2 k).1 hk with h | h | h
              · exact .inl (.inr ((HGG.out k).2 (.inl h)))
              · rcases HSL10.out with e | e
                · rw [e] at h
                  exact .inl (.inr ((HGG.out k).2 (.inr (.inl (by cases al <;> exact h)))))
                · exact .inr (Nat.le_trans hg0 (e k h))
              · rcases HAP9.out.f2 k h with h | h
                · exact .inl (.inr ((HGG.out k).2 (.inr (.inr h))))
                · exact .inr h
end Go.Proofs.YtacfkhnajdneeaaDoor
