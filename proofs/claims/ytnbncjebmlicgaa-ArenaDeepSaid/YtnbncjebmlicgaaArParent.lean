/- Parent: of which node it is a kid, and where: plainly, and the walk. -/
import Derived.Test.YtnbncjebmlicgaaArRange
namespace Go.Proofs.Ytnbncjebmlicgaa
open Go.RowKit

/-- the first node that has it -/
def parOf (l : List (Nat × Nd)) (x : Nat) : Nat × Int := match l.find? (fun p => p.2.kids.contains x) with | some p => (p.1, idxI p.2.kids x) | none => (0, 0)

theorem idxI_sign (l : List Nat) (x : Nat) : (0 ≤ idxI l x ↔ l.contains x = true) ∧ -1 ≤ idxI l x ∧ idxI l x < (l.length : Int) + 1 := by
  unfold idxI
  cases h : l.findIdx? (· == x) with
  | none =>
    have h1 := List.findIdx?_eq_none_iff.1 h
    refine ⟨⟨fun hh => absurd hh (by decide), fun hh => ?_⟩, by decide, by show (-1 : Int) < _; omega⟩
    have := h1 x (by simpa using hh)
    simp at this
  | some k =>
    have h1 := List.findIdx?_eq_some_iff_getElem.1 h
    obtain ⟨hk, he, -⟩ := h1
    refine ⟨⟨fun _ => ?_, fun _ => by simp⟩, by show (-1 : Int) ≤ (k : Int); omega, by show (k : Int) < _; omega⟩
    have : l[k] = x := by simpa using he
    rw [List.contains_iff_mem, ← this]
    exact List.getElem_mem hk

theorem parOf_none {m : List (Nat × Nd)} {x : Nat} (h : ∀ q ∈ m, q.2.kids.contains x = false) : parOf m x = (0, 0) := by
  unfold parOf
  rw [List.find?_eq_none.2 fun q hq => by rw [h q hq]; decide]
theorem parOf_min {m : List (Nat × Nd)} {x : Nat} (ha : m.Pairwise (fun p q => p.1 < q.1)) {p : Nat × Nd} (hp : p ∈ m) (hc : p.2.kids.contains x = true) (hmin : ∀ q ∈ m, q.2.kids.contains x = true → p.1 ≤ q.1) : parOf m x = (p.1, idxI p.2.kids x) := by
  unfold parOf
  induction m with
  | nil => cases hp
  | cons y r ih =>
    rw [List.find?_cons]
    have hy := List.pairwise_cons.1 ha
    rcases List.mem_cons.1 hp with rfl | hp
    · rw [hc]
    · cases hyc : y.2.kids.contains x with
      | false => exact ih hy.2 hp fun q hq hqc => hmin q (List.mem_cons_of_mem _ hq) hqc
      | true =>
        have h1 := hmin y (List.mem_cons_self ..) hyc
        have h2 := hy.1 p hp
        omega
theorem parOf_some {m : List (Nat × Nd)} {x : Nat} (ha : m.Pairwise (fun p q => p.1 < q.1)) (h : ∃ q ∈ m, q.2.kids.contains x = true) : ∃ p ∈ m, p.2.kids.contains x = true ∧ (∀ q ∈ m, q.2.kids.contains x = true → p.1 ≤ q.1) := by
  induction m with
  | nil => obtain ⟨q, hq, -⟩ := h; cases hq
  | cons y r ih =>
    have hy := List.pairwise_cons.1 ha
    cases hyc : y.2.kids.contains x with
    | true => exact ⟨y, List.mem_cons_self .., hyc, fun q hq _ => by
        rcases List.mem_cons.1 hq with rfl | hq
        · exact Nat.le_refl _
        · exact Nat.le_of_lt (hy.1 q hq)⟩
    | false =>
      obtain ⟨q, hq, hqc⟩ := h
      have hqr : q ∈ r := by
        rcases List.mem_cons.1 hq with rfl | hq
        · rw [hyc] at hqc; cases hqc
        · exact hq
      obtain ⟨p, hp, hpc, hpm⟩ := ih hy.2 ⟨q, hqr, hqc⟩
      refine ⟨p, List.mem_cons_of_mem _ hp, hpc, fun q hq hqc => ?_⟩
      rcases List.mem_cons.1 hq with rfl | hq
      · rw [hyc] at hqc; cases hqc
      · exact hpm q hq hqc

/-- those that have come -/
def seenA {α : Type} (l : List (Nat × α)) (left : Nat → Bool) : List (Nat × α) := l.filter fun p => !left p.1
theorem mem_seenA {α : Type} {l : List (Nat × α)} {left : Nat → Bool} {p : Nat × α} : p ∈ seenA l left ↔ p ∈ l ∧ left p.1 = false := by
  unfold seenA
  rw [List.mem_filter]
  simp
theorem asc_key {α : Type} {l : List (Nat × α)} (h : AscA l) {p q : Nat × α} (hp : p ∈ l) (hq : q ∈ l) (he : p.1 = q.1) : p = q := by
  have h1 := getA_of_mem h hp
  have h2 := getA_of_mem h hq
  rw [he, h2] at h1
  exact Prod.ext he (Option.some.inj h1).symm

theorem parOf_step {l : List (Nat × Nd)} (ha : AscA l) (hz : ∀ p ∈ l, p.1 ≠ 0) {left : Nat → Bool} {p : Nat × Nd} (hp : p ∈ l) (hl : left p.1 = true) (x : Nat) :
    parOf (seenA l (fun y => left y && !(y == p.1))) x = if 0 ≤ idxI p.2.kids x ∧ ((parOf (seenA l left) x).1 = 0 ∨ p.1 < (parOf (seenA l left) x).1) then (p.1, idxI p.2.kids x) else parOf (seenA l left) x := by
  have hmem : ∀ q, q ∈ seenA l (fun y => left y && !(y == p.1)) ↔ q ∈ seenA l left ∨ q = p := fun q => by
    rw [mem_seenA, mem_seenA]
    constructor
    · rintro ⟨h1, h2⟩
      simp at h2
      by_cases he : q.1 = p.1
      · exact .inr (asc_key ha h1 hp he)
      · refine .inl ⟨h1, ?_⟩
        cases hq : left q.1 with
        | false => rfl
        | true => exact absurd (h2 hq) he
    · rintro (⟨h1, h2⟩ | rfl)
      · exact ⟨h1, by rw [h2]; rfl⟩
      · exact ⟨hp, by simp⟩
  have hasc : ∀ lf, (seenA l lf).Pairwise (fun p q => p.1 < q.1) := fun lf => ha.1.filter _
  have hsign := (idxI_sign p.2.kids x).1
  by_cases hex : ∃ q ∈ seenA l left, q.2.kids.contains x = true
  · obtain ⟨q, hq, hqc, hqm⟩ := parOf_some (hasc left) hex
    rw [parOf_min (hasc left) hq hqc hqm]
    have hq0 : q.1 ≠ 0 := hz q (mem_seenA.1 hq).1
    by_cases hc : p.2.kids.contains x = true ∧ p.1 < q.1
    · rw [if_pos ⟨hsign.2 hc.1, .inr hc.2⟩]
      refine parOf_min (hasc _) ((hmem p).2 (.inr rfl)) hc.1 fun r hr hrc => ?_
      rcases (hmem r).1 hr with hr | rfl
      · exact Nat.le_trans (Nat.le_of_lt hc.2) (hqm r hr hrc)
      · exact Nat.le_refl _
    · rw [if_neg (fun h => hc ⟨hsign.1 h.1, by rcases h.2 with h | h; exact absurd h hq0; exact h⟩)]
      refine parOf_min (hasc _) ((hmem q).2 (.inl hq)) hqc fun r hr hrc => ?_
      rcases (hmem r).1 hr with hr | rfl
      · exact hqm r hr hrc
      · rcases Nat.lt_or_ge r.1 q.1 with h | h
        · exact absurd ⟨hrc, h⟩ hc
        · exact h
  · have hno : ∀ q ∈ seenA l left, q.2.kids.contains x = false := fun q hq => by
      cases h : q.2.kids.contains x with
      | false => rfl
      | true => exact absurd ⟨q, hq, h⟩ hex
    rw [parOf_none hno]
    by_cases hc : p.2.kids.contains x = true
    · rw [if_pos ⟨hsign.2 hc, .inl rfl⟩]
      refine parOf_min (hasc _) ((hmem p).2 (.inr rfl)) hc fun r hr hrc => ?_
      rcases (hmem r).1 hr with hr | rfl
      · rw [hno r hr] at hrc; cases hrc
      · exact Nat.le_refl _
    · rw [if_neg (fun h => hc (hsign.1 h.1))]
      refine parOf_none fun r hr => ?_
      rcases (hmem r).1 hr with hr | rfl
      · exact hno r hr
      · simpa using hc
theorem seenA_start {α : Type} (l : List (Nat × α)) : seenA l (fun _ => true) = [] := by
  unfold seenA
  exact List.filter_eq_nil_iff.2 fun p _ => by simp
theorem seenA_end {α : Type} {l : List (Nat × α)} {left : Nat → Bool} (h : ∀ p ∈ l, left p.1 = false) : seenA l left = l := by
  unfold seenA
  exact List.filter_eq_self.2 fun p hp => by rw [h p hp]; rfl

/-- an arena's map, ranged over -/
structure ArRng (w : World) (g b r : Nat) (l : List (Nat × Nd)) (vl : List (Nat × Value)) (left : Nat → Bool) : Prop where
  ar : ArAt w g b l
  rng : RngAt Try.prog 26 w b r vl left
  step : StepA (fun v n => OwnNd 0 w v n) vl l
theorem ArRng.notId {w : World} {g b r : Nat} {l : List (Nat × Nd)} {vl : List (Nat × Value)} {left : Nat → Bool} (h : ArRng w g b r l vl left) : ∀ k, k = r → ∀ cs fr, w.heap[k]? ≠ some (.cells cs 26 fr) := fun k hk cs fr e => by
  obtain ⟨m, s, q, c, hi⟩ := h.rng.iter
  subst hk
  rw [hi] at e
  cases e
theorem ArRng.ne {w : World} {g b r : Nat} {l : List (Nat × Nd)} {vl : List (Nat × Value)} {left : Nat → Bool} (h : ArRng w g b r l vl left) : g ≠ r ∧ b ≠ r := by
  obtain ⟨m, s, q, c, hi⟩ := h.rng.iter
  obtain ⟨es, cl, hm⟩ := h.rng.map.isMap
  refine ⟨fun e => ?_, fun e => ?_⟩
  · subst e; rw [h.ar.box] at hi; cases hi
  · subst e; rw [hm] at hi; cases hi
theorem ArRng.below {w w' : World} {g b r : Nat} {l : List (Nat × Nd)} {vl : List (Nat × Value)} {left : Nat → Bool} (h : ArRng w g b r l vl left) (hb : Below w.heap.size w w') : ArRng w' g b r l vl left ∧ w'.rangeLeft b r = w.rangeLeft b r := by
  obtain ⟨h1, h2⟩ := h.rng.only (Only.of_below hb fun _ => False) (fun h => h) (fun h => h)
  exact ⟨⟨h.ar.below hb, h1, h.step.mono fun v n hn => hn.below hb⟩, h2⟩
theorem ArAt.range {w : World} {g b : Nat} {l : List (Nat × Nd)} (h : ArAt w g b l) :
    ∃ w' vl, (Instr.range 68 (.map (some b))).run Try.prog w = .ok (.pointer (some ⟨w.heap.size, 0, none⟩)) w' ∧ ArRng w' g b w.heap.size l vl (fun _ => true) ∧ Below w.heap.size w w' ∧ w'.heap.size = w.heap.size + 1 := by
  obtain ⟨vl, h1, h2⟩ := h.ex
  obtain ⟨w', hrun, g1, g2, g3⟩ := h1.range (t := 68) Try.underlying26 Try.underlying68
  exact ⟨w', vl, hrun, ⟨h.below g2, g1, h2.mono fun v n hn => hn.below g2⟩, g2, g3⟩
theorem StepA.mem {α β : Type} {R : α → β → Prop} {l : List (Nat × α)} {m : List (Nat × β)} (h : StepA R l m) {p : Nat × α} (hp : p ∈ l) : ∃ q ∈ m, q.1 = p.1 ∧ R p.2 q.2 := by
  induction h with
  | nil => cases hp
  | cons h _ ih =>
    rcases List.mem_cons.1 hp with rfl | hp
    · exact ⟨_, List.mem_cons_self .., h.1.symm, h.2⟩
    · obtain ⟨q, hq, h1⟩ := ih hp
      exact ⟨q, List.mem_cons_of_mem _ hq, h1⟩
theorem StepA.mem' {α β : Type} {R : α → β → Prop} {l : List (Nat × α)} {m : List (Nat × β)} (h : StepA R l m) {q : Nat × β} (hq : q ∈ m) : ∃ p ∈ l, q.1 = p.1 ∧ R p.2 q.2 := by
  induction h with
  | nil => cases hq
  | cons h _ ih =>
    rcases List.mem_cons.1 hq with rfl | hq
    · exact ⟨_, List.mem_cons_self .., h.1.symm, h.2⟩
    · obtain ⟨p, hp, h1⟩ := ih hq
      exact ⟨p, List.mem_cons_of_mem _ hp, h1⟩
/-- the next one -/
theorem ArRng.next {w : World} {g b r : Nat} {l : List (Nat × Nd)} {vl : List (Nat × Value)} {left : Nat → Bool} (h : ArRng w g b r l vl left) :
    ((∀ p ∈ l, left p.1 = false) ∧ (Instr.next (.pointer (some ⟨r, 0, none⟩)) false 0).run Try.prog w = .ok (.tuple #[.bool false]) w) ∨
    ∃ p kv w', p ∈ l ∧ left p.1 = true ∧ (Instr.next (.pointer (some ⟨r, 0, none⟩)) false 0).run Try.prog w = .ok (.tuple #[.bool true, .int .u64 p.1, NdVal p.2 kv]) w' ∧ OwnIds 0 w' kv p.2.kids ∧ p.2.Ok ∧ p.1 < 18446744073709551616 ∧
      ArRng w' g b r l vl (fun x => left x && !(x == p.1)) ∧ w'.rangeLeft b r < w.rangeLeft b r ∧ Only w w' (fun q => q = r) ∧ w'.heap.size = w.heap.size ∧
      (Instr.entry (.pointer (some ⟨r, 0, none⟩))).run Try.prog w' = .ok (.tuple #[.int .u64 p.1, NdVal p.2 kv]) w' := by
  obtain ⟨hgr, hbr⟩ := h.ne
  rcases h.rng.next Try.underlying26 0 with ⟨h1, h2⟩ | ⟨p, w', hp, hl, hrun, hr', hlt, ho, hs, hen⟩
  · refine .inl ⟨fun q hq => ?_, h2⟩
    obtain ⟨p, hp, he, -⟩ := h.step.mem' hq
    rw [he]
    exact h1 p hp
  · obtain ⟨q, hq, he, kv, hkv, hk, ok⟩ := h.step.mem hp
    have hst : StepA (fun v n => OwnNd 0 w' v n) vl l := h.step.mono fun v n hn => hn.only ho h.notId
    rw [hkv, ← he] at hrun hen
    rw [← he] at hl hr'
    exact .inr ⟨q, kv, w', hq, hl, hrun, hk.only ho h.notId, ok, h.ar.asc.2 q hq, ⟨h.ar.only ho hgr hbr h.notId, hr', hst⟩, hlt, ho, hs, hen⟩

set_option maxRecDepth 10000 in
theorem arparent_nil (x : Nat) (w : World) : Calls Try.prog 11 #[.pointer none, .int .u64 x] w fun e w' => e = .returned (.tuple #[.int .u64 0, .int .i64 0]) ∧ w' = w := by
  go_enter Try.func11, Try.ntmps11
  go_wp2
  go_ret2
  exact ⟨rfl, rfl⟩

set_option maxRecDepth 10000 in
set_option maxHeartbeats 1600000 in
theorem arparent_any (g b : Nat) (l : List (Nat × Nd)) (x : Nat) (w : World) (h : ArAt w g b l) :
    Calls Try.prog 11 #[.pointer (some ⟨g, 0, none⟩), .int .u64 x] w fun e w' => e = .returned (.tuple #[.int .u64 (parOf l x).1, .int .i64 (parOf l x).2]) ∧ Below w.heap.size w w' := by
  have H := Lib.hid h
  have HNZ := Lib.hid h.nz
  have HASC := Lib.hid h.asc
  have c0 := h.c0
  obtain ⟨w0, vl, hrun, h0, hb0, hs0⟩ := h.range
  obtain ⟨r, hr⟩ : ∃ r, r = w.heap.size := ⟨_, rfl⟩
  rw [← hr] at hrun h0
  have H0 := Lib.hid h0
  have HB0 := Lib.hid hb0
  have HR : Hid (w.heap.size ≤ r) := Lib.hid (by omega)
  clear h h0 hb0 hs0 hr
  go_enter Try.func11, Try.ntmps11
  go_wp2_with fail
  go_loopw [6, 7, 8, 9, 10] (fun o a _ _ _ wr => ∃ left, o = .int .u64 (parOf (seenA l left) x).1 ∧ a = .int .i64 (parOf (seenA l left) x).2 ∧ Hid (ArRng wr g b r l vl left) ∧ Hid (Below w.heap.size w wr)) (fun _ _ _ _ _ wr => wr.rangeLeft b r)
  case atStart => exact ⟨fun _ => true, by rw [seenA_start]; rfl, by rw [seenA_start]; rfl, H0, HB0⟩
  case round =>
    clear H0 HB0 H hrun c0
    obtain ⟨left, rfl, rfl, har, hbl⟩ := hrel
    rcases har.out.next with ⟨hend, hnx⟩ | ⟨p, kv, w1, hp, hl, hnx, hk, ok, h64, har1, hlt, ho, hs, hen⟩
    · have he := seenA_end hend
      rw [he]
      clear he hend har
      go_wp2_with fail
      go_ret2
      exact ⟨rfl, hbl.out⟩
    · have hb1 : Below w.heap.size w w1 := hbl.out.trans (ho.below w.heap.size hbl.out.size fun i hi e => by have := HR.out; omega)
      obtain ⟨out, hout⟩ : ∃ q, q = (parOf (seenA l left) x).1 := ⟨_, rfl⟩
      obtain ⟨att, hatt⟩ : ∃ q, q = (parOf (seenA l left) x).2 := ⟨_, rfl⟩
      have hstep := parOf_step HASC.out HNZ.out hp hl x
      have hpair : parOf (seenA l left) x = (out, att) := by rw [hout, hatt]
      rw [hpair] at hstep
      rw [← hout, ← hatt]
      have HSTEP := Lib.hid hstep
      have HAR1 := Lib.hid har1
      have HB1 := Lib.hid hb1
      have HLT := Lib.hid hlt
      have HK := Lib.hid hk
      obtain ⟨ka, kc, rfl⟩ := hk.slice
      obtain ⟨pk, n⟩ := p
      replace hstep := HSTEP.out
      obtain ⟨KL, hKL⟩ : ∃ q, q = n.kids.length := ⟨_, rfl⟩
      have HKL := Lib.hid hKL
      unfold NdVal at hnx hen
      replace hnx : _ = Result.ok (Value.tuple #[.bool true, .int .u64 (pk : Int), .agg #[.int .u8 n.kind, .string n.name, .int .i64 n.num, .int .u8 n.typ, .int .u64 n.ref, .slice ka n.kids.length kc]]) w1 := hnx
      replace hen : _ = Result.ok (Value.tuple #[.int .u64 (pk : Int), .agg #[.int .u8 n.kind, .string n.name, .int .i64 n.num, .int .u8 n.typ, .int .u64 n.ref, .slice ka n.kids.length kc]]) w1 := hen
      rw [← hKL] at hnx hen
      clear hout hatt hpair hstep har1 hb1 hlt hk ok ho hs har hbl hp hl hKL
      go_upto_region 7 with fail
      have hb2 := bal (bre w1) (.cells #[.int .u8 n.kind, .string n.name, .int .i64 n.num, .int .u8 n.typ, .int .u64 n.ref, .slice ka KL kc] 29)
      have hr2 := heap_alloc_new w1 (.cells #[.int .u8 n.kind, .string n.name, .int .i64 n.num, .int .u8 n.typ, .int .u64 n.ref, .slice ka KL kc] 29)
      generalize w1.alloc (.cells #[.int .u8 n.kind, .string n.name, .int .i64 n.num, .int .u8 n.typ, .int .u64 n.ref, .slice ka KL kc] 29) = w2 at *
      obtain ⟨n9, hn9⟩ : ∃ q, q = w1.heap.size := ⟨_, rfl⟩
      rw [← hn9] at hr2 ⊢
      have hR2 : Row6 w2 n9 n (.slice ka KL kc) := hr2
      have y5 := hR2.c5
      have HAR2 := Lib.hid (HAR1.out.below hb2)
      have HB2 := Lib.hid (HB1.out.trans (hb2.mono HB1.out.size))
      have HK2 := Lib.hid (HK.out.below hb2)
      clear hb2 hr2 hR2 hn9 hnx hen HAR1 HB1 HK
      go_wp2_with fail
      refine (idindex_any _ n.kids x w2 (by rw [HKL.out]; exact HK2.out.ids)).mono ?_
      rintro e w3 ⟨rfl, hw⟩
      have hw' := hw.symm
      subst hw'
      clear hw y5
      have hstep := HSTEP.out
      replace hstep : parOf (seenA l (fun y => left y && !(y == pk))) x = if 0 ≤ idxI n.kids x ∧ (out = 0 ∨ pk < out) then (pk, idxI n.kids x) else (out, att) := hstep
      have hsg := (idxI_sign n.kids x).2
      generalize idxI n.kids x = ix at *
      by_cases h1 : 0 ≤ ix
      · have d1 : decide ((0 : Int) ≤ ix) = true := decide_eq_true h1
        by_cases h2 : out = 0
        · have d2 : ((out : Int) == 0) = true := beq_iff_eq.2 (by omega)
          have d3 : decide ((out : Int) = 0) = true := decide_eq_true (by omega)
          rw [if_pos ⟨h1, .inl h2⟩] at hstep
          have HST := Lib.hid hstep
          clear hstep hsg HSTEP h2
          go_wp2_with fail
          go_roundw
          case rel => exact ⟨_, by rw [HST.out], by rw [HST.out], Lib.hid HAR2.out.1, HB2⟩
          case measure => rw [HAR2.out.2]; exact HLT.out
        · have d2 : ((out : Int) == 0) = false := beq_false_of_ne (by omega)
          have d3 : decide ((out : Int) = 0) = false := decide_eq_false (by omega)
          by_cases h3 : pk < out
          · have d4 : decide ((pk : Int) < (out : Int)) = true := decide_eq_true (by omega)
            have d4n : decide (pk < out) = true := decide_eq_true h3
            rw [if_pos ⟨h1, .inr h3⟩] at hstep
            have HST := Lib.hid hstep
            clear hstep hsg HSTEP h2
            go_wp2_with fail
            go_roundw
            case rel => exact ⟨_, by rw [HST.out], by rw [HST.out], Lib.hid HAR2.out.1, HB2⟩
            case measure => rw [HAR2.out.2]; exact HLT.out
          · have d4 : decide ((pk : Int) < (out : Int)) = false := decide_eq_false (by omega)
            have d4n : decide (pk < out) = false := decide_eq_false h3
            rw [if_neg (fun h => by rcases h.2 with h | h; exact h2 h; exact h3 h)] at hstep
            have HST := Lib.hid hstep
            clear hstep hsg HSTEP h2
            go_wp2_with fail
            go_roundw
            case rel => exact ⟨_, by rw [HST.out], by rw [HST.out], Lib.hid HAR2.out.1, HB2⟩
            case measure => rw [HAR2.out.2]; exact HLT.out
      · have d1 : decide ((0 : Int) ≤ ix) = false := decide_eq_false h1
        rw [if_neg (fun h => h1 h.1)] at hstep
        have HST := Lib.hid hstep
        clear hstep hsg HSTEP
        go_wp2_with fail
        go_roundw
        case rel => exact ⟨_, by rw [HST.out], by rw [HST.out], Lib.hid HAR2.out.1, HB2⟩
        case measure => rw [HAR2.out.2]; exact HLT.out
end Go.Proofs.Ytnbncjebmlicgaa
