/- Walk: Same of arenas. -/
import Derived.Test.YtnbncjebmlicgaaArIds
namespace Go.Proofs.Ytnbncjebmlicgaa
open Go.RowKit

/-- node for node -/
def hitA (l : List (Nat × Nd)) (p : Nat × Nd) : Bool := match getA l p.1 with | some n => ndSame p.2 n | none => false
def eqA (l m : List (Nat × Nd)) : Bool := decide (l.length = m.length) && l.all (hitA m)
theorem eqA_iff {l m : List (Nat × Nd)} (hl : AscA l) (hm : AscA m) : eqA l m = true ↔ l = m := by
  constructor
  · intro h
    unfold eqA at h
    rw [Bool.and_eq_true, decide_eq_true_iff, List.all_eq_true] at h
    obtain ⟨hlen, hall⟩ := h
    have h1 := hl.1
    clear hl
    induction l generalizing m with
    | nil => exact (List.length_eq_zero_iff.1 hlen.symm).symm
    | cons p r ih =>
      have hp := List.pairwise_cons.1 h1
      have hit : ∀ q ∈ p :: r, q ∈ m := fun q hq => by
        have := hall q hq
        unfold hitA at this
        cases hg : getA m q.1 with
        | none => rw [hg] at this; cases this
        | some n =>
          rw [hg] at this
          have e := (ndSame_iff _ _).1 this
          have := getA_mem hg
          rw [← e] at this
          exact this
      cases m with
      | nil => cases hlen
      | cons y s =>
        have hy := List.pairwise_cons.1 hm.1
        have hpy : p = y := by
          rcases List.mem_cons.1 (hit p (List.mem_cons_self ..)) with h | h
          · exact h
          · -- then y is none of the first list's
            have hys := hy.1 p h
            have hsub : ∀ q ∈ p :: r, q ∈ s := fun q hq => by
              rcases List.mem_cons.1 (hit q hq) with h2 | h2
              · subst h2
                rcases List.mem_cons.1 hq with h3 | h3
                · rw [h3] at hys; omega
                · have := hp.1 _ h3; omega
              · exact h2
            have hasc : AscA (p :: r) := ⟨h1, fun q hq => hm.2 q (hit q hq)⟩
            have hs : AscA s := ⟨hy.2, fun q hq => hm.2 q (List.mem_cons_of_mem _ hq)⟩
            have := sub_len hasc hs (fun q hq => by rw [getA_of_mem hs (hsub q hq)]; rfl)
            simp at hlen this
            omega
        subst hpy
        have hs : AscA s := ⟨hy.2, fun q hq => hm.2 q (List.mem_cons_of_mem _ hq)⟩
        rw [ih hs (by simpa using hlen) (fun q hq => ?_) hp.2]
        have hq2 := hit q (List.mem_cons_of_mem _ hq)
        have hqs : q ∈ s := by
          rcases List.mem_cons.1 hq2 with h | h
          · have := hp.1 q hq; rw [h] at this; omega
          · exact h
        unfold hitA
        rw [getA_of_mem hs hqs]
        exact (ndSame_iff _ _).2 rfl
  · rintro rfl
    unfold eqA
    rw [Bool.and_eq_true]
    refine ⟨decide_eq_true rfl, List.all_eq_true.2 fun p hp => ?_⟩
    unfold hitA
    rw [getA_of_mem hl hp]
    exact (ndSame_iff _ _).2 rfl

set_option maxRecDepth 20000 in
set_option maxHeartbeats 3200000 in
theorem areqf_any (g b g2 b2 : Nat) (l m : List (Nat × Nd)) (w : World) (h : ArAt w g b l) (h2 : ArAt w g2 b2 m) :
    Calls Try.prog 46 #[.map (some b), .map (some b2), .func (.func 47) #[] #[]] w fun e w' => e = .returned (.bool (eqA l m)) ∧ Below w.heap.size w w' := by
  obtain ⟨R, hR⟩ : ∃ R, R = eqA l m := ⟨_, rfl⟩
  rw [← hR]
  have HRES := Lib.hid hR
  have hlen := fun ty => h.len ty
  have hlen2 := fun ty => h2.len ty
  obtain ⟨L, hL⟩ : ∃ L, L = l.length := ⟨_, rfl⟩
  obtain ⟨M, hM⟩ : ∃ L, L = m.length := ⟨_, rfl⟩
  rw [← hL] at hlen
  rw [← hM] at hlen2
  have HL := Lib.hid hL
  have HM := Lib.hid hM
  obtain ⟨w0, vl, hrun, h0, hb0, hs0⟩ := h.range
  obtain ⟨r, hr⟩ : ∃ r, r = w.heap.size := ⟨_, rfl⟩
  rw [← hr] at hrun h0
  have H0 := Lib.hid h0
  have HB0 := Lib.hid hb0
  have H20 := Lib.hid (h2.below hb0)
  have HRL : Hid (w.heap.size ≤ r) := Lib.hid (by omega)
  clear hR h h2 hL hM h0 hb0 hs0 hr
  by_cases hlm : L = M
  · subst hlm
    go_enter Try.func46, Try.ntmps46
    go_wp2_with fail
    clear hrun hlen hlen2
    go_loopw [7, 8, 9, 10] (fun _ _ _ _ wr => ∃ left, Hid (ArRng wr g b r l vl left) ∧ Hid (ArAt wr g2 b2 m) ∧ Hid (Below w.heap.size w wr) ∧ Hid (∀ p ∈ l, left p.1 = false → hitA m p = true)) (fun _ _ _ _ wr => wr.rangeLeft b r)
    case atStart => exact ⟨fun _ => true, H0, H20, HB0, Lib.hid fun p _ h => by cases h⟩
    case round =>
      clear H0 HB0 H20
      obtain ⟨left, har, ha2, hbl, hdone⟩ := hrel
      rcases har.out.next with ⟨hend, hnx⟩ | ⟨p, kv, w1, hp, hl, hnx, hk, ok, h64, har1, hlt, ho, hs, hen⟩
      · have hRt : R = true := by
          rw [HRES.out]
          unfold eqA
          rw [Bool.and_eq_true]
          exact ⟨decide_eq_true (by rw [← HL.out, ← HM.out]), List.all_eq_true.2 fun p hp => hdone.out p hp (hend p hp)⟩
        subst hRt
        clear hend hdone har ha2
        go_wp2_with fail
        go_ret
        exact ⟨rfl, hbl.out⟩
      · have hbw : Below w.heap.size w w1 := hbl.out.trans (ho.below w.heap.size hbl.out.size fun i hi e => by have := HRL.out; omega)
        have ha21 : ArAt w1 g2 b2 m := ha2.out.only ho (fun e => by
            obtain ⟨_, _, _, _, hit⟩ := har.out.rng.iter
            have hbx := ha2.out.box
            subst e; rw [hbx] at hit; cases hit) (fun e => by
            obtain ⟨_, _, _, _, hit⟩ := har.out.rng.iter
            obtain ⟨vl2, g1, -⟩ := ha2.out.ex
            obtain ⟨_, _, hmm⟩ := g1.isMap
            subst e; rw [hmm] at hit; cases hit) har.out.notId
        have HAR1 := Lib.hid har1
        have HA21 := Lib.hid ha21
        have HB1 := Lib.hid hbw
        have HLT := Lib.hid hlt
        obtain ⟨ka9, kc9, rfl⟩ := hk.slice
        obtain ⟨pk, n9⟩ := p
        have HK9 := Lib.hid hk
        have HOK9 := Lib.hid ok
        have HDONE : Hid (hitA m (pk, n9) = true → ∀ p ∈ l, (left p.1 && !(p.1 == pk)) = false → hitA m p = true) := Lib.hid fun hr p hp' hlf => by
          cases hleft : left p.1 with
          | false => exact hdone.out p hp' hleft
          | true =>
            rw [hleft] at hlf
            have he : p.1 = pk := by simpa using hlf
            rw [asc_key HAR1.out.ar.asc hp' hp he]
            exact hr
        have HBAD : Hid (hitA m (pk, n9) = false → R = false) := Lib.hid fun hr => by
          rw [HRES.out]
          unfold eqA
          have : l.all (hitA m) = false := List.all_eq_false.2 ⟨_, hp, by rw [hr]; decide⟩
          rw [this, Bool.and_false]
        have h64' : pk < 18446744073709551616 := h64
        have HPK := Lib.hid h64'
        obtain ⟨KL9, hKL9⟩ : ∃ q, q = n9.kids.length := ⟨_, rfl⟩
        unfold NdVal at hnx hen
        replace hnx : _ = Result.ok (Value.tuple #[.bool true, .int .u64 (pk : Int), .agg #[.int .u8 n9.kind, .string n9.name, .int .i64 n9.num, .int .u8 n9.typ, .int .u64 n9.ref, .slice ka9 n9.kids.length kc9]]) w1 := hnx
        replace hen : _ = Result.ok (Value.tuple #[.int .u64 (pk : Int), .agg #[.int .u8 n9.kind, .string n9.name, .int .i64 n9.num, .int .u8 n9.typ, .int .u64 n9.ref, .slice ka9 n9.kids.length kc9]]) w1 := hen
        rw [← hKL9] at hnx hen HK9
        clear har1 ha21 hbw hlt hdone har ha2 hbl hp hl ho hs hk ok h64 h64' hKL9
        go_upto_region 6 with fail
        have hbq := bal (bre w1) (.cells #[.int .u8 n9.kind, .string n9.name, .int .i64 n9.num, .int .u8 n9.typ, .int .u64 n9.ref, .slice ka9 KL9 kc9] 29)
        have hrq := heap_alloc_new w1 (.cells #[.int .u8 n9.kind, .string n9.name, .int .i64 n9.num, .int .u8 n9.typ, .int .u64 n9.ref, .slice ka9 KL9 kc9] 29)
        generalize w1.alloc (.cells #[.int .u8 n9.kind, .string n9.name, .int .i64 n9.num, .int .u8 n9.typ, .int .u64 n9.ref, .slice ka9 KL9 kc9] 29) = wq at *
        obtain ⟨n8, hn8⟩ : ∃ q, q = w1.heap.size := ⟨_, rfl⟩
        rw [← hn8] at hrq ⊢
        have hRq : Row6 wq n8 n9 (.slice ka9 KL9 kc9) := hrq
        have HRQ := Lib.hid hRq
        have HAQ := Lib.hid (HA21.out.below hbq)
        have HARQ := Lib.hid (HAR1.out.below hbq)
        have HBQ := Lib.hid (HB1.out.trans (hbq.mono HB1.out.size))
        have HKQ := Lib.hid (HK9.out.below hbq)
        obtain ⟨kv5, r5, -, hk5, ok5⟩ := HAQ.out.look pk HPK.out
        obtain ⟨ka5, kc5, rfl⟩ := hk5.slice
        obtain ⟨n5, hn5⟩ : ∃ q, q = atN m pk := ⟨_, rfl⟩
        obtain ⟨ro, hro⟩ : ∃ q, q = (getA m pk).isSome := ⟨_, rfl⟩
        rw [← hn5, ← hro] at r5
        rw [← hn5] at hk5 ok5
        obtain ⟨KL5, hKL5⟩ : ∃ q, q = n5.kids.length := ⟨_, rfl⟩
        rw [← hKL5] at r5 hk5
        have HRO := Lib.hid hro
        have HN5 := Lib.hid hn5
        have HK5 := Lib.hid hk5
        have HOK5 := Lib.hid ok5
        unfold NdVal at r5
        clear hbq hrq hRq hn8 hnx hen HAR1 HA21 HB1 HK9 hn5 hro hk5 ok5 hKL5
        go_upto_region 7 with fail
        have hbz := bal (bre wq) (.cells #[.int .u8 n5.kind, .string n5.name, .int .i64 n5.num, .int .u8 n5.typ, .int .u64 n5.ref, .slice ka5 KL5 kc5] 29)
        have hrz := heap_alloc_new wq (.cells #[.int .u8 n5.kind, .string n5.name, .int .i64 n5.num, .int .u8 n5.typ, .int .u64 n5.ref, .slice ka5 KL5 kc5] 29)
        generalize wq.alloc (.cells #[.int .u8 n5.kind, .string n5.name, .int .i64 n5.num, .int .u8 n5.typ, .int .u64 n5.ref, .slice ka5 KL5 kc5] 29) = wz at *
        obtain ⟨n9', hn9⟩ : ∃ q, q = wq.heap.size := ⟨_, rfl⟩
        rw [← hn9] at hrz ⊢
        have hRz : Row6 wz n9' n5 (.slice ka5 KL5 kc5) := hrz
        have hRq := HRQ.out.below hbz
        have HAZ := Lib.hid (HAQ.out.below hbz)
        have HARZ := HARQ.out.1.below hbz
        have HLTZ : Hid (wz.rangeLeft b r < _) := Lib.hid (by rw [HARZ.2, HARQ.out.2]; exact HLT.out)
        have HARZ1 := Lib.hid HARZ.1
        have HBZ := Lib.hid (HBQ.out.trans (hbz.mono HBQ.out.size))
        have HKZ := Lib.hid (HKQ.out.below hbz)
        have HK5Z := Lib.hid (HK5.out.below hbz)
        cases ro with
        | false =>
          have hR := HBAD.out (by
            unfold hitA
            show (match getA m pk with | some n => ndSame n9 n | none => false) = false
            have := HRO.out
            cases hg : getA m pk with
            | none => rfl
            | some x => rw [hg] at this; cases this)
          subst hR
          clear hbz hrz hRz hRq HARZ hn9 r5
          go_wp2_with fail
          go_ret
          exact ⟨rfl, HBZ.out⟩
        | true =>
          have hgm : getA m pk = some n5 := by
            have h1 := HRO.out
            have h2 := HN5.out
            unfold atN at h2
            cases hg : getA m pk with
            | none => rw [hg] at h1; cases h1
            | some x => rw [hg] at h2; rw [h2]; rfl
          have hhit : hitA m (pk, n9) = ndSame n9 n5 := by
            show (match getA m pk with | some n => ndSame n9 n | none => false) = _
            rw [hgm]
          have p0 := hRq.c0
          have p1 := hRq.c1
          have p2 := hRq.c2
          have p3 := hRq.c3
          have p4 := hRq.c4
          have p5 := hRq.c5
          have r0 := hRz.c0
          have r1 := hRz.c1
          have r2 := hRz.c2
          have r3 := hRz.c3
          have r4 := hRz.c4
          have r6 := hRz.c5
          have HHIT := Lib.hid hhit
          clear hbz hrz hRz hRq HARZ hn9 r5 hgm hhit
          go_wp2_with fail
          refine (arequal_any _ _ n9 n5 wz ⟨_, rfl, HKZ.out.ids, HOK9.out⟩ ⟨_, rfl, HK5Z.out.ids, HOK5.out⟩).mono ?_
          rintro e wy ⟨rfl, hby⟩
          have HARY := HARZ1.out.below hby
          have HLY : Hid (wy.rangeLeft b r < _) := Lib.hid (by rw [HARY.2]; exact HLTZ.out)
          have HARY1 := Lib.hid HARY.1
          have HAY := Lib.hid (HAZ.out.below hby)
          have HBY := Lib.hid (HBZ.out.trans (hby.mono HBZ.out.size))
          clear HARY hby p0 p1 p2 p3 p4 p5 r0 r1 r2 r3 r4 r6
          cases hsm : ndSame n9 n5 with
          | true =>
            have HDN := Lib.hid (HDONE.out (HHIT.out.trans hsm))
            clear hsm
            go_wp2_with fail
            go_roundw
            case rel => exact ⟨_, HARY1, HAY, HBY, HDN⟩
            case measure => exact HLY.out
          | false =>
            have hR := HBAD.out (HHIT.out.trans hsm)
            subst hR
            clear hsm
            go_wp2_with fail
            go_ret
            exact ⟨rfl, HBY.out⟩
  · have q1 : ((L : Int) == (M : Int)) = false := beq_false_of_ne (by omega)
    have q2 : ((L : Int) != (M : Int)) = true := by rw [bne, q1]; rfl
    have q3 : ¬ (L : Int) = (M : Int) := by omega
    have hRf : R = false := by
      rw [HRES.out]
      unfold eqA
      rw [decide_eq_false (by rw [← HL.out, ← HM.out]; exact hlm)]
      rfl
    subst hRf
    go_enter Try.func46, Try.ntmps46
    go_wp2_with fail
    go_ret
    exact ⟨rfl, bre _⟩

set_option maxRecDepth 10000 in
theorem arsame_nil (w : World) : Calls Try.prog 28 #[.pointer none, .pointer none] w fun e w' => e = .returned (.bool true) ∧ w' = w := by
  go_enter Try.func28, Try.ntmps28
  go_wp2
  go_ret
  exact ⟨rfl, rfl⟩
set_option maxRecDepth 10000 in
theorem arsame_half (g : Nat) (w : World) : Calls Try.prog 28 #[.pointer (some ⟨g, 0, none⟩), .pointer none] w fun e w' => e = .returned (.bool false) ∧ w' = w := by
  go_enter Try.func28, Try.ntmps28
  go_wp2
  go_ret
  exact ⟨rfl, rfl⟩
end Go.Proofs.Ytnbncjebmlicgaa
