/- Walk: all pages of a half are read. -/
import Derived.Test.YtacfkhnajdneeaaDoorPreE
import Derived.Deep.CutBlock
namespace Go.Proofs.YtacfkhnajdneeaaDoor
open Go.RowKit

/-- where a log stands that is read -/
structure ReadSt (w wr : World) (g gd gen fr n serial : Nat) (vp vs : Value) (P : List UInt8) (so : List Nat) : Prop where
  p : Own8 5 w.heap.size wr vp P
  s : wr.ownsRow w.heap.size 34 1 vs so.length (so.map U32)
  row : RlRow wr g gd gen fr n serial (.slice none 0 0) (.slice none 0 0) vs
  only : Only w wr (fun q => q = g)

theorem ReadSt.below {w wr w' : World} {g gd gen fr n serial : Nat} {vp vs : Value} {P : List UInt8} {so : List Nat} (h : ReadSt w wr g gd gen fr n serial vp vs P so) (hb : Below wr.heap.size wr w') : ReadSt w w' g gd gen fr n serial vp vs P so :=
  ⟨Own8.kept h.p (Nat.le_refl _) hb, own_only h.s (Only.of_below hb fun _ => False) (fun _ _ h => h), h.row.below hb, h.only.trans (Only.of_below hb fun q => q = g) fun _ _ h => h⟩
theorem ReadSt.grewP {w wr w' : World} {g gd gen fr n serial : Nat} {vp vp' vs : Value} {P P' : List UInt8} {so : List Nat} (h : ReadSt w wr g gd gen fr n serial vp vs P so) (hg : wr.grownBy w' vp.ownBlock) (hp : Own8 5 w.heap.size w' vp' P') : ReadSt w w' g gd gen fr n serial vp' vs P' so :=
  ⟨hp, own_only h.s (Only.of_grown hg) (own_apart2 h.s h.p (by decide)), h.row.only (Only.of_grown hg) (own_ne h.p h.row (by decide)), h.only.trans (Only.of_grown hg) fun i hi e => absurd (World.ownsRow.lt h.p i e).1 (by omega)⟩
theorem ReadSt.grewS {w wr w' : World} {g gd gen fr n serial s : Nat} {vp vs vs' : Value} {P : List UInt8} {so : List Nat} (h : ReadSt w wr g gd gen fr n serial vp vs P so) (hg : wr.grownBy w' vs.ownBlock)
    (hs : w'.ownsRow w.heap.size 34 1 vs' (so.length + 1) (so.map U32 ++ [U32 s])) : ReadSt w (w'.setCell ⟨g, 7, none⟩ vs') g gd gen fr n serial vp vs' P (so ++ [s]) := by
  have hr := h.row.only (Only.of_grown hg) (own_ne h.s h.row (by decide))
  have hp : Own8 5 w.heap.size w' vp P := own_only h.p (Only.of_grown hg) (own_apart2 h.p h.s (by decide))
  refine ⟨own_only hp (Only.setCell _ _ _) fun k hk e => own_ne hp hr (by decide) (by have e' : k = g := e; rw [← e']; exact hk), ?_, hr.put7 vs', (h.only.trans (Only.of_grown hg) fun i hi e => absurd (World.ownsRow.lt h.s i e).1 (by omega)).trans (Only.setCell _ _ _) fun _ _ e => e⟩
  have h2 := own_only hs (Only.setCell w' ⟨g, 7, none⟩ vs') fun k hk e => own_ne hs hr (by decide) (by have e' : k = g := e; rw [← e']; exact hk)
  simpa using h2
theorem ReadSt.size {w wr : World} {g gd gen fr n serial : Nat} {vp vs : Value} {P : List UInt8} {so : List Nat} (h : ReadSt w wr g gd gen fr n serial vp vs P so) : w.heap.size ≤ wr.heap.size := h.only.size

set_option maxRecDepth 10000 in
set_option maxHeartbeats 400000 in
theorem pfull_len (a : Option Addr) (L c : Nat) (p : Pg) (w : World) (hL : L = p.data.length) :
    Calls Tryd.prog 75 #[PgVal p (.slice a L c)] w fun e w' => e = .returned (.bool (decide (p.data.length = 491))) ∧ Below w.heap.size w w' := by
  unfold PgVal
  rw [← hL]
  clear hL
  by_cases h : L = 491
  · have h1 : ((L : Int) == 491) = true := by rw [h]; rfl
    have h2 : decide ((L : Int) = 491) = true := decide_eq_true (by omega)
    rw [decide_eq_true h]
    clear h
    go_enter Tryd.func75, Tryd.ntmps75
    go_wp2_with fail
    go_ret
    exact ⟨rfl, bal (bre w) _⟩
  · have h1 : ((L : Int) == 491) = false := beq_false_of_ne (by omega)
    have h2 : decide ((L : Int) = 491) = false := decide_eq_false (by omega)
    rw [decide_eq_false h]
    clear h
    go_enter Tryd.func75, Tryd.ntmps75
    go_wp2_with fail
    go_ret
    exact ⟨rfl, bal (bre w) _⟩

theorem Rec8.cut {base : Nat} {w : World} {a : Option Addr} {L c M : Nat} {p : List UInt8} (h : Own8 5 base w (.slice a L c) p) (hL : L = p.length) (hM : M ≤ L) : Rec8 base w (.slice a M M) (p.take M) := by
  have hr := Rec8.of_own h
  obtain ⟨⟨a', c', e, h1, h2, h3, h4⟩, h5⟩ := hr
  cases e
  have hl : (p.take M).length = M := by rw [List.length_take]; omega
  refine ⟨⟨a, M, by rw [hl], by rw [hl]; omega, by rw [hl]; exact Nat.le_refl _, fun e => by have := h3 e; omega, ?_⟩, fun k o n c' hne e => ?_⟩
  · by_cases h0 : p.take M = []
    · exact .inl h0
    · right
      rcases h4 with h4 | ⟨g, o, ha, hc⟩
      · rw [h4] at h0; simp at h0
      · refine ⟨g, o, ha, fun j x hx => hc j x ?_⟩
        rw [List.getElem?_take] at hx
        split at hx
        · exact hx
        · cases hx
  · cases e
    exact h5 k o _ c (fun h0 => hne (by rw [h0]; simp)) rfl

set_option maxRecDepth 20000 in
set_option maxHeartbeats 3200000 in
theorem rread_any (g gd gen fr n serial : Nat) (d : Dk) (F : Nat → Prop) (w : World) (hd : DiskAt w gd d F) (hg : ¬ F g) (hr : RlRow w g gd gen fr n serial (.slice none 0 0) (.slice none 0 0) (.slice none 0 0)) (hn : fr + n ≤ d.safe.length) (hw : d.wait.length ≤ 1000000) :
    Calls Tryd.prog 52 #[.pointer (some ⟨g, 0, none⟩)] w fun e w' => ∃ (r : Option Nat) (P : List UInt8) (so : List Nat), scanR gen 0 0 (halfOf d fr n) = (r, P, so) ∧ Only w w' (fun q => q = g) ∧
      (∀ i, r = some i → e = .returned (.tuple #[.int .i64 ((fr + i : Nat) : Int), .int .i64 7])) ∧
      (r = none → e = .returned (.tuple #[.int .i64 0, .int .i64 0]) ∧ ∃ vl vp vs, RlRow w' g gd gen fr n serial vl vp vs ∧ RecsAt w.heap.size w' vl (cutL P) ∧ Rec8 w.heap.size w' vp (layAll (cutL P)) ∧ w'.ownsRow w.heap.size 34 1 vs so.length (so.map U32)) := by
  have hfew := hd.ok.few
  have HD := Lib.hid hd
  have HG := Lib.hid hg
  have HN := Lib.hid hn
  have HW := Lib.hid hw
  have hn4 : fr + n ≤ 4096 := by omega
  have hgl := hr.lt
  have c3 := hr.c3
  have HST : Hid (ReadSt w w g gd gen fr n serial (.slice none 0 0) (.slice none 0 0) [] []) := Lib.hid ⟨Own8.nil _ _ _, World.ownsRow_nil _ _ _ _, hr, Only.refl _ _⟩
  have HB0 := Lib.hid (been_start gen (halfOf d fr n))
  clear hd hg hn hw hfew hr
  go_enter Tryd.func52, Tryd.ntmps52
  go_upto_block 0 with fail
  clear c3
  go_cut [4, 5] from 6 to 78 (fun vp _ wx => ∃ (P : List UInt8) (so : List Nat) (vs : Value), Hid (scanR gen 0 0 (halfOf d fr n) = (none, P, so)) ∧ P.length ≤ 487 * n ∧ Hid (ReadSt w wx g gd gen fr n serial vp vs P so))
  case first =>
    go_wp2_with fail
    go_loopw [4, 5, 18] (fun vp av i wr => ∃ (k a : Nat) (P : List UInt8) (so : List Nat) (vs : Value), k ≤ n ∧ i = .int .i64 k ∧ av = .int .u32 a ∧ a < 4294967296 ∧ P.length ≤ 487 * k ∧ so.length ≤ k ∧ Hid (Been gen (halfOf d fr n) k a P so) ∧ Hid (ReadSt w wr g gd gen fr n serial vp vs P so)) (fun _ _ i _ => n - (intOf i).toNat)
    case atStart => exact ⟨0, 0, [], [], .slice none 0 0, by omega, rfl, rfl, by omega, by simp, by simp, HB0, HST⟩
    case round =>
      obtain ⟨k, a, P, so, vs, hk, rfl, rfl, ha, hP, hso, hbeen, hst⟩ := hrel
      by_cases hlt : k < n
      · have d1 : decide ((k : Int) < n) = true := decide_eq_true (by omega)
        have d1n : decide (k < n) = true := decide_eq_true hlt
        have x0 := hst.out.row.c0
        have x2 := hst.out.row.c2
        obtain ⟨m, hm⟩ : ∃ m, m = fr + k := ⟨_, rfl⟩
        have hadd : IntKind.i64.wrap (m : Int) = (m : Int) := by rw [IntKind.wrap_i64]; omega
        have hadd2 : (fr : Int) + (k : Int) = (m : Int) := by omega
        obtain ⟨b, hbe⟩ : ∃ b, b = d.now (fr + k) := ⟨_, rfl⟩
        have HBE := Lib.hid hbe
        have HM := Lib.hid hm
        have hdw := HD.out.only hst.out.only fun q hq e => HG.out (e ▸ hq)
        have HDW := Lib.hid hdw
        obtain ⟨av, nv, cv, hvp⟩ := Own8.isSlice hst.out.p
        clear hm hbe hdw
        go_wp2_with fail
        refine (dread_ok gd d F m _ HDW.out (by have := HN.out; have := HM.out; omega) HW.out).mono ?_
        rintro e w3 ⟨v3, rfl, ho3, hb3⟩
        rw [HM.out, ← HBE.out] at ho3
        have HST3 := Lib.hid (hst.out.below hb3)
        have hy3 := ho3.bytes
        clear ho3 hb3 hst HDW hadd hadd2 x0 x2 hvp
        go_wp2_with fail
        refine (parse_any _ b w3 hy3).mono ?_
        rintro e w4 ⟨v4, rfl, ho4, hb4⟩
        have hpg := parse_good b
        obtain ⟨p, hp⟩ : ∃ p, p = (parseOf b).2 := ⟨_, rfl⟩
        obtain ⟨E, hE⟩ : ∃ E, E = (parseOf b).1 := ⟨_, rfl⟩
        rw [← hp] at ho4 hpg
        have HP := Lib.hid hp
        have HE := Lib.hid hE
        have hroom : p.data.length ≤ 491 := by rw [hp]; exact parse_room b
        rw [← hp, ← hE]
        have HST4 := Lib.hid (HST3.out.below hb4)
        have HY4 := Lib.hid ho4.bytes
        have HPG := Lib.hid hpg
        obtain ⟨a4, c4, rfl, -, -, -, -⟩ := id ho4.bytes
        unfold PgVal
        obtain ⟨L4, hL4⟩ : ∃ L, L = p.data.length := ⟨_, rfl⟩
        rw [← hL4] at HY4 hroom ⊢
        have HL4 := Lib.hid hL4
        clear hp hE ho4 hb4 HST3 hy3 hpg hL4
        go_upto_region 9 with fail
        have hb5 := bal (bre w4) (.cells #[.int .u32 p.gen, .int .u32 p.serial, .int .u32 p.number, .int .u8 p.kind, .slice a4 L4 c4] 122)
        have hq5 := page_new w4 p (.slice a4 L4 c4)
        generalize w4.alloc (.cells #[.int .u32 p.gen, .int .u32 p.serial, .int .u32 p.number, .int .u8 p.kind, .slice a4 L4 c4] 122) = w5 at *
        obtain ⟨n5, hn5⟩ : ∃ n, n = w4.heap.size := ⟨_, rfl⟩
        rw [← hn5] at hq5 ⊢
        have HST5 := Lib.hid (HST4.out.below hb5)
        have HY5 := Lib.hid (HY4.out.below hb5)
        have HQ5 := Lib.hid hq5
        have HN5 : Hid (g < n5 ∧ w.heap.size ≤ n5) := Lib.hid ⟨by rw [hn5]; exact HST4.out.row.lt, by rw [hn5]; exact HST4.out.size⟩
        clear hb5 hq5 hn5 HST4 HY4
        by_cases hE0 : E = 0
        · have e1 : (E != 0) = false := by rw [hE0]; rfl
          have e2 : decide (E = 0) = true := decide_eq_true hE0
          have e3 : (E == 0) = true := by rw [hE0]; rfl
          have HE0 := Lib.hid hE0
          clear hE0
          have y0 := HQ5.out.c0
          have y1 := HQ5.out.c1
          have y2 := HQ5.out.c2
          have y3 := HQ5.out.c3
          have y4 := HQ5.out.c4
          go_wp2_with fail
          refine (follows_any g gen k a _ p w5 (PgAt.mk' HY5.out) HPG.out HST5.out.row.c1 ha (by rw [← HL4.out]; omega)).mono ?_
          rintro e w7 ⟨rfl, hb7⟩
          have HST7 := Lib.hid (HST5.out.below hb7)
          have HY7 := Lib.hid (HY5.out.below hb7)
          have HQ7 := Lib.hid (HQ5.out.below hb7)
          obtain ⟨fb, hfb⟩ : ∃ fb, fb = followsB gen k a p := ⟨_, rfl⟩
          rw [← hfb]
          have HFB := Lib.hid hfb
          clear hb7 hfb HST5 HY5 HQ5 y0 y1 y2 y3 y4 e1 e2 e3
          cases fb with
          | false =>
            have HS : Hid (scanR gen 0 0 (halfOf d fr n) = (none, P, so)) := Lib.hid (been_stop hbeen.out hlt (.inl (by rw [← HBE.out, ← HE.out]; exact HE0.out)) (.inr (by rw [← HBE.out, ← HP.out]; exact HFB.out.symm)))
            go_wp2_with fail
            go_meet
            case rel => exact ⟨P, so, vs, HS, by omega, HST7⟩
          | true =>
            have hL4 : 4 ≤ L4 := by rw [HL4.out]; exact follows_len HFB.out.symm
            go_upto_region 12 with fail
            obtain ⟨A7, N7, C7, s7, zz7, hN7⟩ := run_suffix HY7.out 4 23 5 (by rw [← HL4.out]; exact hL4) row8
            have ZZ7 := Lib.hid zz7
            have HN7 : Hid (N7 + 4 = L4) := Lib.hid (by rw [hN7, ← HL4.out]; omega)
            clear zz7 hN7
            rw [show ((4 : Nat) : Int) = 4 from rfl] at s7
            have HST8 := Lib.hid (HST7.out.below (bdr (bre w7)))
            have HQ8 := Lib.hid (HQ7.out.below (bdr (bre w7)))
            have HZ8 := Lib.hid (ZZ7.out.below (bdr (bre w7)))
            refine region_anyZ (z := 8) (S := fun w' => (w'.cell? ⟨n5, 1, none⟩ = some (.int .u32 p.serial) ∧ w'.cell? ⟨n5, 4, none⟩ = some (.slice a4 L4 c4))) (by kernel_rfl) ?_
            refine anyZ_begin (fun hcl0 => ?_)
            refine anyZ_held (by exact ⟨HQ8.out.c1, HQ8.out.c4⟩) (fun hHeld => ?_)
            -- 0: Op.move (Operand.tmp 4)
            refine' anyZ_pure (i := 0) (v := _) rfl (by rfl) (by kernel_rfl) (by kernel_rfl) (by kernel_rfl) hcl0 (fun _ _ _ h => h) (Or.inl ⟨by rfl, fun w _ => ?hy1⟩) (fun _ => hHeld) (fun hcl1 => ?ry1)
            case hy1 => (simp only [List.getElem_toArray, List.getElem_cons_zero]; first | (go_simp; with_reducible rfl) | (go_simp; done) | rfl)
            simp only [List.getElem_toArray, List.getElem_cons_zero, Act.put, List.setIfInBounds_toArray, List.set_cons_zero, List.set_cons_succ]
            -- 1: Op.fieldAddr 122 (Operand.tmp 10) 4
            refine' anyZ_pure (i := 1) (v := _) rfl (by rfl) (by kernel_rfl) (by kernel_rfl) (by kernel_rfl) hcl1 (fun _ _ _ h => h) (Or.inl ⟨by rfl, fun w _ => ?hy2⟩) (fun _ => hHeld) (fun hcl2 => ?ry2)
            case hy2 => (simp only [List.getElem_toArray, List.getElem_cons_succ, List.getElem_cons_zero]; first | (go_simp; with_reducible rfl) | (go_simp; done) | rfl)
            simp only [List.getElem_toArray, List.getElem_cons_succ, List.getElem_cons_zero, Act.put, List.setIfInBounds_toArray, List.set_cons_zero, List.set_cons_succ]
            -- 2: Op.load 23 (Operand.tmp 59)
            refine' anyZ_take (i := 2) (v := _) rfl (by rfl) (by kernel_rfl) (by kernel_rfl) (by kernel_rfl) hcl2 8 (by kernel_rfl) (by kernel_rfl) (fun _ _ _ h => h) (Or.inl ⟨by rfl, fun w hSw => ?hy3⟩) hHeld (fun hcl3 => ?ry3)
            case hy3 => (simp only [List.getElem_toArray, List.getElem_cons_succ, List.getElem_cons_zero]; obtain ⟨hS1, hS2⟩ := hSw; first | (go_simp; with_reducible rfl) | (go_simp; done) | rfl)
            simp only [List.getElem_toArray, List.getElem_cons_succ, List.getElem_cons_zero, Act.put, List.setIfInBounds_toArray, List.set_cons_zero, List.set_cons_succ]
            -- 3: Op.slice 23 (Operand.tmp 60) (some (Operand.const (Value.int
            refine' anyZ_pure (i := 3) (v := _) rfl (by rfl) (by kernel_rfl) (by kernel_rfl) (by kernel_rfl) hcl3 (fun _ _ _ h => h) (Or.inl ⟨by rfl, fun w _ => ?hy4⟩) (fun _ => hHeld) (fun hcl4 => ?ry4)
            case hy4 => (simp only [List.getElem_toArray, List.getElem_cons_succ, List.getElem_cons_zero]; first | (go_simp; with_reducible rfl) | (go_simp; done) | rfl)
            simp only [List.getElem_toArray, List.getElem_cons_succ, List.getElem_cons_zero, Act.put, List.setIfInBounds_toArray, List.set_cons_zero, List.set_cons_succ]
            -- 5: Op.fieldAddr 122 (Operand.tmp 10) 1
            refine' anyZ_pure (i := 5) (v := _) rfl (by rfl) (by kernel_rfl) (by kernel_rfl) (by kernel_rfl) hcl4 (fun _ _ _ h => h) (Or.inl ⟨by rfl, fun w _ => ?hy5⟩) (fun _ => hHeld) (fun hcl5 => ?ry5)
            case hy5 => (simp only [List.getElem_toArray, List.getElem_cons_succ, List.getElem_cons_zero]; first | (go_simp; with_reducible rfl) | (go_simp; done) | rfl)
            simp only [List.getElem_toArray, List.getElem_cons_succ, List.getElem_cons_zero, Act.put, List.setIfInBounds_toArray, List.set_cons_zero, List.set_cons_succ]
            -- 6: Op.load 34 (Operand.tmp 63)
            refine' anyZ_take (i := 6) (v := _) rfl (by rfl) (by kernel_rfl) (by kernel_rfl) (by kernel_rfl) hcl5 8 (by kernel_rfl) (by kernel_rfl) (fun _ _ _ h => h) (Or.inl ⟨by rfl, fun w hSw => ?hy6⟩) hHeld (fun hcl6 => ?ry6)
            case hy6 => (simp only [List.getElem_toArray, List.getElem_cons_succ, List.getElem_cons_zero]; obtain ⟨hS1, hS2⟩ := hSw; first | (go_simp; with_reducible rfl) | (go_simp; done) | rfl)
            simp only [List.getElem_toArray, List.getElem_cons_succ, List.getElem_cons_zero, Act.put, List.setIfInBounds_toArray, List.set_cons_zero, List.set_cons_succ]
            -- 4: Op.call { callee := Callee.builtin Builtin.append, args := #
            refine anyZ_one (i := 4) hcl6 (by kernel_rfl) (by simp only [List.getElem?_toArray, List.getElem?_cons_succ, List.getElem?_cons_zero]; rfl) (by rfl) (fun hcl7 K hK => ?_)
            refine wp_app8 _ _ 23 5 row8 rfl w.heap.size _ P rfl HST8.out.p _ (p.data.drop 4) rfl HZ8.out (by rw [List.length_drop, ← HL4.out]; omega) HST8.out.size ?_
            intro v8 w8 ho8 hg8 hs8
            have HST9 := Lib.hid (HST8.out.grewP hg8 ho8)
            have HQ9 := Lib.hid (HQ8.out.only (Only.of_grown hg8) (own_ne HST8.out.p HQ8.out (by decide)))
            clear ho8 hg8 hs8
            refine hK _ _ (fun _ => ?_) ?_
            · exact ⟨HQ9.out.c1, HQ9.out.c4⟩
            clear hK K hHeld
            have hHeld := (⟨HQ9.out.c1, HQ9.out.c4⟩ : _ ∧ _)
            try simp only [Act.put, List.setIfInBounds_toArray, List.set_cons_zero, List.set_cons_succ]
            -- 7: Op.assign (Operand.tmp 62)
            refine' anyZ_pure (i := 7) (v := _) rfl (by rfl) (by kernel_rfl) (by kernel_rfl) (by kernel_rfl) hcl7 (fun _ _ _ h => h) (Or.inl ⟨by rfl, fun w _ => ?hy8⟩) (fun _ => hHeld) (fun hcl8 => ?ry8)
            case hy8 => (simp only [List.getElem_toArray, List.getElem_cons_succ, List.getElem_cons_zero]; first | (go_simp; with_reducible rfl) | (go_simp; done) | rfl)
            simp only [List.getElem_toArray, List.getElem_cons_succ, List.getElem_cons_zero, Act.put, List.setIfInBounds_toArray, List.set_cons_zero, List.set_cons_succ]
            clear hHeld
            refine anyZ_chain_at (by kernel_rfl) ?_
            simp only [List.drop_succ_cons, List.drop_zero]
            clear HST8 HQ8 HZ8 s7 HST7 HQ7 HY7 ZZ7
            have x7 := HST9.out.row.c7
            have fz := HST9.out.row.fz
            clear hL4
            have hn5g : ¬ (n5 = g) := by have := HN5.out.1; omega
            have HSTB := Lib.hid (HST9.out.below (bal (bre w8) (.cells #[.int .u32 p.serial] 34)))
            have HQB := Lib.hid (HQ9.out.below (bal (bre w8) (.cells #[.int .u32 p.serial] 34)))
            go_wp2_with (at_builtin; refine wpList_app rfl _ _ 97 34 1 4 rowU rfl w.heap.size _ so.length (so.map U32) rfl HSTB.out.s _ 1 1 [.int .u32 p.serial] rfl rfl (lies_one _ _ _) (Nat.le_refl _) (fun h => by cases h) (by simp [Value.oneCell']) (by unfold maxLen; omega) (by omega) HSTB.out.size ?_; intro v9 w9 ho9 hg9 _; obtain ⟨a9, c9, rfl, -, -, -, -, -⟩ := ownsRow_lies ho9; have HSTA := Lib.hid (HSTB.out.grewS hg9 ho9); have hq9 := HQB.out.only (Only.of_grown hg9) (own_ne HSTB.out.s HQB.out (by decide)); have HQA := Lib.hid (hq9.only (Only.setCell w9 ⟨g, 7, none⟩ (.slice a9 (so.length + 1) c9)) hn5g); have hr9 := HSTB.out.row.only (Only.of_grown hg9) (own_ne HSTB.out.s HSTB.out.row (by decide)); have fz9 := hr9.fz; have c79 := hr9.c7; have y0 := HQA.out.c0; have y1 := HQA.out.c1; have y2 := HQA.out.c2; have y3 := HQA.out.c3; have y4 := HQA.out.c4; clear ho9 hg9 hq9 hr9)
            generalize w9.setCell ⟨g, 7, none⟩ (.slice a9 (so.length + 1) c9) = wA at *
            clear y0 y1 y2 y3 y4 c79 fz9 HSTB HQB HST9 HQ9 x7 fz
            refine (pfull_len a4 L4 c4 p wA HL4.out).mono ?_
            rintro e wB ⟨rfl, hbB⟩
            have HSTC := Lib.hid (HSTA.out.below hbB)
            have hPl : (P ++ p.data.drop 4).length ≤ 487 * (k + 1) := by rw [List.length_append, List.length_drop, ← HL4.out]; omega
            have hsl : (so ++ [p.serial]).length ≤ k + 1 := by rw [List.length_append]; show so.length + 1 ≤ _; omega
            clear hbB HSTA HQA
            by_cases hfull : p.data.length = 491
            · rw [decide_eq_true hfull]
              have HB' : Hid (Been gen (halfOf d fr n) (k + 1) p.serial (P ++ p.data.drop 4) (so ++ [p.serial])) := Lib.hid (by
                have := been_on hbeen.out hlt (by rw [← HBE.out, ← HE.out]; exact HE0.out) (by rw [← HBE.out, ← HP.out]; exact HFB.out.symm) (by rw [← HBE.out, ← HP.out]; exact hfull)
                rw [← HBE.out, ← HP.out] at this
                exact this)
              have hser := HPG.out.serial
              clear hfull
              go_wp2_with fail
              go_roundw
              case rel => exact ⟨k + 1, p.serial, _, _, _, by omega, by go_num, rfl, hser, hPl, hsl, HB', HSTC⟩
              case measure => simp [intOf]; omega
            · rw [decide_eq_false hfull]
              have HS : Hid (scanR gen 0 0 (halfOf d fr n) = (none, P ++ p.data.drop 4, so ++ [p.serial])) := Lib.hid (by
                have := been_last hbeen.out hlt (by rw [← HBE.out, ← HE.out]; exact HE0.out) (by rw [← HBE.out, ← HP.out]; exact HFB.out.symm) (by rw [← HBE.out, ← HP.out]; exact hfull)
                rw [← HBE.out, ← HP.out] at this
                exact this)
              clear hfull
              go_wp2_with fail
              go_meet
              case rel => exact ⟨_, _, _, HS, by omega, HSTC⟩
        · by_cases hE3 : E = 3
          · have e1 : (E != 0) = true := by rw [hE3]; rfl
            have e2 : (E != 3) = false := by rw [hE3]; rfl
            have e3 : decide (E = 0) = false := decide_eq_false hE0
            have e4 : decide (E = 3) = true := decide_eq_true hE3
            have HS : Hid (scanR gen 0 0 (halfOf d fr n) = (none, P, so)) := Lib.hid (been_stop hbeen.out hlt (.inr (by rw [← HBE.out, ← HE.out]; exact hE3)) (.inl (by rw [← HBE.out, ← HE.out]; exact hE0)))
            clear hE0 hE3
            go_wp2_with fail
            go_meet
            case rel => exact ⟨P, so, vs, HS, by omega, HST5⟩
          · have e1 : (E != 0) = true := bne_iff_ne.2 hE0
            have e2 : (E != 3) = true := bne_iff_ne.2 hE3
            have e3 : decide (E = 0) = false := decide_eq_false hE0
            have e4 : decide (E = 3) = false := decide_eq_false hE3
            have HS : Hid (scanR gen 0 0 (halfOf d fr n) = (some k, P, so)) := Lib.hid (been_bad hbeen.out hlt (by rw [← HBE.out, ← HE.out]; exact hE0) (by rw [← HBE.out, ← HE.out]; exact hE3))
            clear hE0 hE3
            go_wp2_with fail
            go_ret2
            refine ⟨some k, P, so, HS.out, HST5.out.only, fun i hi => ?_, fun h => by cases h⟩
            cases hi
            rw [← HM.out]
            rfl
      · have hkn : k = n := by omega
        have d1 : decide ((k : Int) < n) = false := decide_eq_false (by omega)
        have d1n : decide (k < n) = false := decide_eq_false hlt
        have HS : Hid (scanR gen 0 0 (halfOf d fr n) = (none, P, so)) := Lib.hid (by
          have := hbeen.out
          rw [hkn] at this
          exact been_end this)
        clear hkn
        go_wp2_with fail
        go_meet
        case rel => exact ⟨P, so, vs, HS, by omega, hst⟩
  case rest =>
    obtain ⟨P, so, vs, HS, hP, hst⟩ := hcut
    have hy := hst.out.p.bytes
    obtain ⟨a1, c1, rfl, hm1, hc1, -, -⟩ := id hy
    have HY := Lib.hid hy
    obtain ⟨L, hL⟩ : ∃ L, L = P.length := ⟨_, rfl⟩
    rw [← hL] at hm1 hc1 hP
    have HL := Lib.hid hL
    have hsub : ∀ u : Value, u = .slice a1 P.length c1 → u = .slice a1 L c1 := fun u hu => by rw [hu, hL]
    rw [← hL]
    clear hy hL hsub HD HG HN HW HB0
    go_wp2_with fail
    refine (rcut_any (.slice a1 L c1) P _ (by rw [HL.out]; exact HY.out) (by rw [← HL.out]; omega)).mono ?_
    rintro e w2 ⟨v2, rfl, hr2, hb2⟩
    have hle := cut_le P
    rw [← HL.out] at hle
    have HST2 := Lib.hid (hst.out.below hb2)
    have HR2 := Lib.hid (hr2.base (base' := w.heap.size) (hst.out.size))
    obtain ⟨a2, c2, rfl, -, -, -, -⟩ := id hr2.rows
    have hown2 := HST2.out.p
    have HO2 := Lib.hid hown2
    obtain ⟨M, hM⟩ : ∃ M, M = (layAll (cutL P)).length := ⟨_, rfl⟩
    rw [← hM] at hle ⊢
    have HM := Lib.hid hM
    obtain ⟨N2, hN2⟩ : ∃ N, N = (cutL P).length := ⟨_, rfl⟩
    rw [← hN2] at HR2 ⊢
    clear hb2 hr2 hst HY hown2 hM hN2
    go_upto_region 17 with fail
    have HST3 := Lib.hid (HST2.out.below (bdr (bre w2)))
    have HR3 := Lib.hid (HR2.out.below (bdr (bre w2)))
    have x4 := HST3.out.row.c4
    have x5 := HST3.out.row.c5
    have fz := HST3.out.row.fz
    have x42 := HST2.out.row.c4
    have x52 := HST2.out.row.c5
    have fz2 := HST2.out.row.fz
    have p1 : 0 ≤ (M : Int) := by omega
    have hmc : M ≤ c1 := by omega
    refine region_anyZ (z := 7) (S := fun _ => True) (by kernel_rfl) ?_
    refine anyZ_begin (fun hcl0 => ?_)
    refine anyZ_held (by exact trivial) (fun hHeld => ?_)
    -- 0: Op.move (Operand.tmp 0)
    refine' anyZ_pure (i := 0) (v := _) rfl (by rfl) (by kernel_rfl) (by kernel_rfl) (by kernel_rfl) hcl0 (fun _ _ _ h => h) (Or.inl ⟨by rfl, fun w _ => ?hz1⟩) (fun _ => hHeld) (fun hcl1 => ?rz1)
    case hz1 => (simp only [List.getElem_toArray, List.getElem_cons_zero]; first | (go_simp; with_reducible rfl) | (go_simp; done) | rfl)
    simp only [List.getElem_toArray, List.getElem_cons_zero, Act.put, List.setIfInBounds_toArray, List.set_cons_zero, List.set_cons_succ]
    -- 1: Op.move (Operand.tmp 0)
    refine' anyZ_pure (i := 1) (v := _) rfl (by rfl) (by kernel_rfl) (by kernel_rfl) (by kernel_rfl) hcl1 (fun _ _ _ h => h) (Or.inl ⟨by rfl, fun w _ => ?hz2⟩) (fun _ => hHeld) (fun hcl2 => ?rz2)
    case hz2 => (simp only [List.getElem_toArray, List.getElem_cons_succ, List.getElem_cons_zero]; first | (go_simp; with_reducible rfl) | (go_simp; done) | rfl)
    simp only [List.getElem_toArray, List.getElem_cons_succ, List.getElem_cons_zero, Act.put, List.setIfInBounds_toArray, List.set_cons_zero, List.set_cons_succ]
    -- 2: Op.move (Operand.tmp 12)
    refine' anyZ_pure (i := 2) (v := _) rfl (by rfl) (by kernel_rfl) (by kernel_rfl) (by kernel_rfl) hcl2 (fun _ _ _ h => h) (Or.inl ⟨by rfl, fun w _ => ?hz3⟩) (fun _ => hHeld) (fun hcl3 => ?rz3)
    case hz3 => (simp only [List.getElem_toArray, List.getElem_cons_succ, List.getElem_cons_zero]; first | (go_simp; with_reducible rfl) | (go_simp; done) | rfl)
    simp only [List.getElem_toArray, List.getElem_cons_succ, List.getElem_cons_zero, Act.put, List.setIfInBounds_toArray, List.set_cons_zero, List.set_cons_succ]
    -- 3: Op.move (Operand.tmp 4)
    refine' anyZ_pure (i := 3) (v := _) rfl (by rfl) (by kernel_rfl) (by kernel_rfl) (by kernel_rfl) hcl3 (fun _ _ _ h => h) (Or.inl ⟨by rfl, fun w _ => ?hz4⟩) (fun _ => hHeld) (fun hcl4 => ?rz4)
    case hz4 => (simp only [List.getElem_toArray, List.getElem_cons_succ, List.getElem_cons_zero]; first | (go_simp; with_reducible rfl) | (go_simp; done) | rfl)
    simp only [List.getElem_toArray, List.getElem_cons_succ, List.getElem_cons_zero, Act.put, List.setIfInBounds_toArray, List.set_cons_zero, List.set_cons_succ]
    -- 4: Op.move (Operand.tmp 13)
    refine' anyZ_pure (i := 4) (v := _) rfl (by rfl) (by kernel_rfl) (by kernel_rfl) (by kernel_rfl) hcl4 (fun _ _ _ h => h) (Or.inl ⟨by rfl, fun w _ => ?hz5⟩) (fun _ => hHeld) (fun hcl5 => ?rz5)
    case hz5 => (simp only [List.getElem_toArray, List.getElem_cons_succ, List.getElem_cons_zero]; first | (go_simp; with_reducible rfl) | (go_simp; done) | rfl)
    simp only [List.getElem_toArray, List.getElem_cons_succ, List.getElem_cons_zero, Act.put, List.setIfInBounds_toArray, List.set_cons_zero, List.set_cons_succ]
    -- 5: Op.move (Operand.tmp 13)
    refine' anyZ_pure (i := 5) (v := _) rfl (by rfl) (by kernel_rfl) (by kernel_rfl) (by kernel_rfl) hcl5 (fun _ _ _ h => h) (Or.inl ⟨by rfl, fun w _ => ?hz6⟩) (fun _ => hHeld) (fun hcl6 => ?rz6)
    case hz6 => (simp only [List.getElem_toArray, List.getElem_cons_succ, List.getElem_cons_zero]; first | (go_simp; with_reducible rfl) | (go_simp; done) | rfl)
    simp only [List.getElem_toArray, List.getElem_cons_succ, List.getElem_cons_zero, Act.put, List.setIfInBounds_toArray, List.set_cons_zero, List.set_cons_succ]
    -- 6: Op.slice 23 (Operand.tmp 87) none (some (Operand.tmp 88)) (s
    refine' anyZ_pure (i := 6) (v := _) rfl (by rfl) (by kernel_rfl) (by kernel_rfl) (by kernel_rfl) hcl6 (fun _ _ _ h => h) (Or.inl ⟨by rfl, fun w _ => ?hz7⟩) (fun _ => hHeld) (fun hcl7 => ?rz7)
    case hz7 => (simp only [List.getElem_toArray, List.getElem_cons_succ, List.getElem_cons_zero]; first | (go_simp; with_reducible rfl) | (go_simp; done) | rfl)
    simp only [List.getElem_toArray, List.getElem_cons_succ, List.getElem_cons_zero, Act.put, List.setIfInBounds_toArray, List.set_cons_zero, List.set_cons_succ]
    clear hHeld
    refine anyZ_chain_at (by kernel_rfl) ?_
    simp only [List.drop_succ_cons, List.drop_zero]
    go_wp2_with fail
    have hP4 := HST3.out.row.put4 (.slice a2 N2 c2)
    have hP5 := hP4.put5 (.slice a1 M M)
    have hon := (Only.setCell w2.drew ⟨g, 4, none⟩ (.slice a2 N2 c2)).trans (Only.setCell _ ⟨g, 5, none⟩ (.slice a1 M M)) fun _ _ e => e
    have hrec : Rec8 w.heap.size w2.drew (.slice a1 M M) (layAll (cutL P)) := by
      have := Rec8.cut (M := M) HST3.out.p rfl (by rw [← HL.out]; exact hle)
      rw [HM.out, cut_take_eq] at this
      rw [HM.out]
      exact this
    have h8 : ∀ k, k = g → ∀ cs fr, w2.drew.heap[k]? ≠ some (.cells cs 5 fr) := fun k e cs fr hh => by
      rw [e, HST3.out.row] at hh
      cases hh
    go_ret2
    refine ⟨none, P, so, HS.out, HST3.out.only.trans hon fun _ _ e => e, fun i h => (by cases h), fun _ => ⟨rfl, _, _, vs, hP5, HR3.out.only hon fun k e => ⟨h8 k e, fun hk => ?_⟩, hrec.only hon h8, own_only HST3.out.s hon fun k hk e => ?_⟩⟩
    · obtain ⟨us, -, q2, -⟩ := HR3.out
      have e' : k = g := e
      rw [e'] at hk
      exact own_ne q2 HST3.out.row (by decide) hk
    · have e' : k = g := e
      rw [e'] at hk
      exact own_ne HST3.out.s HST3.out.row (by decide) hk
end Go.Proofs.YtacfkhnajdneeaaDoor
