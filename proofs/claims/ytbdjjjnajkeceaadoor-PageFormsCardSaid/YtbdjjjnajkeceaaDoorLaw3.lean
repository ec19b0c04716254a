/- Walks: the law's own small functions, and Parse as a whole. -/
import Derived.Test.YtbdjjjnajkeceaaDoorParseC
import Derived.Test.YtbdjjjnajkeceaaDoorRPBytes
import Derived.Test.YtbdjjjnajkeceaaDoorSame
namespace Go.Proofs.YtbdjjjnajkeceaaDoor
open Go.RowKit

/-- whatever the bytes, Parse answers parseOf -/
theorem parse_any (v : Value) (b : List UInt8) (w : World) (hv : Bytes w v b) :
    Calls Tryd.prog 18 #[v] w (ParsePost w (parseOf b).1 (parseOf b).2) := by
  by_cases hl : b.length = 512
  · by_cases hz : noughts b
    · rw [parseOf_none b hl hz]; exact parse_none v b w hv hl hz
    · by_cases hs : b = seal8 (b.take 508)
      · by_cases hg : b.getD 14 0 = 0 ∨ 491 < lenOf b ∨ ¬ (b.take 2 = mark ∧ noughts ((b.take 508).drop (17 + lenOf b)))
        · rw [parseOf_form b hl hz hs hg]; exact parse_form v b w hv hl hz hs hg
        · rw [parseOf_ok b hl hz hs hg]; exact parse_ok v b w hv hl hz hs hg
      · rw [parseOf_corrupt b hl hz hs]; exact parse_corrupt v b w hv hl hz hs
  · rw [parseOf_arg b hl]; exact parse_arg v b w hv hl

theorem PgAt.val {w : World} {v : Value} {p : Pg} (h : PgAt w v p) : ∃ vd, v = PgVal p vd ∧ Bytes w vd p.data := h
theorem PgAt.mk' {w : World} {vd : Value} {p : Pg} (h : Bytes w vd p.data) : PgAt w (PgVal p vd) p := ⟨vd, rfl, h⟩

/-- a whole page is stored into five cells -/
theorem page_put {x : World} {n : Nat} {a b c d e : Value} {T : TypeId} (p : Pg) (v : Value) (hc : x.heap[n]? = some (.cells #[a, b, c, d, e] T (0, 0))) :
    (((((x.setCell ⟨n, 0, none⟩ (.int .u32 p.gen)).setCell ⟨n, 1, none⟩ (.int .u32 p.serial)).setCell ⟨n, 2, none⟩ (.int .u32 p.number)).setCell ⟨n, 3, none⟩ (.int .u8 p.kind)).setCell ⟨n, 4, none⟩ v).heap[n]? = some (.cells #[.int .u32 p.gen, .int .u32 p.serial, .int .u32 p.number, .int .u8 p.kind, v] T (0, 0)) ∧
    Only x (((((x.setCell ⟨n, 0, none⟩ (.int .u32 p.gen)).setCell ⟨n, 1, none⟩ (.int .u32 p.serial)).setCell ⟨n, 2, none⟩ (.int .u32 p.number)).setCell ⟨n, 3, none⟩ (.int .u8 p.kind)).setCell ⟨n, 4, none⟩ v) (fun q => q = n) ∧
    ∀ B w, B ≤ n → Below B w x → Below B w (((((x.setCell ⟨n, 0, none⟩ (.int .u32 p.gen)).setCell ⟨n, 1, none⟩ (.int .u32 p.serial)).setCell ⟨n, 2, none⟩ (.int .u32 p.number)).setCell ⟨n, 3, none⟩ (.int .u8 p.kind)).setCell ⟨n, 4, none⟩ v) := by
  refine ⟨?_, ?_, fun B w hn hB => ((((hB.setCell hn _).setCell hn _).setCell hn _).setCell hn _).setCell hn _⟩
  · exact heap_setCell_same _ n 4 _ _ v (heap_setCell_same _ n 3 _ _ (.int .u8 p.kind) (heap_setCell_same _ n 2 _ _ (.int .u32 p.number) (heap_setCell_same _ n 1 _ _ (.int .u32 p.serial) (heap_setCell_same _ n 0 _ _ (.int .u32 p.gen) hc))))
  · have h2 : ∀ (y : World) (i : Nat) (u : Value), Only y (y.setCell ⟨n, i, none⟩ u) (fun q => q = n) := fun y i u => Only.setCell y ⟨n, i, none⟩ u
    exact ((((h2 _ 0 _).trans (h2 _ 1 _) fun _ _ h => h).trans (h2 _ 2 _) fun _ _ h => h).trans (h2 _ 3 _) fun _ _ h => h).trans (h2 _ 4 _) fun _ _ h => h

/-- a page of noughts and a page beside it -/
theorem box_two (w : World) (o1 o2 : Obj) : (((w.alloc o1).alloc o2).heap[w.heap.size]? = some o1) ∧ (((w.alloc o1).alloc o2).heap[w.heap.size + 1]? = some o2) := by
  refine ⟨((bal (bre (w.alloc o1)) o2).block _ (by simp)).trans (heap_alloc_new w o1), ?_⟩
  have := heap_alloc_new (w.alloc o1) o2
  simpa using this

set_option maxRecDepth 10000 in
set_option maxHeartbeats 800000 in
theorem own_any (vd : Value) (p : Pg) (w : World) (hv : Bytes w vd p.data) :
    Calls Tryd.prog 13 #[PgVal p vd] w fun e w' => e = .returned (PgVal p vd) ∧ Below w.heap.size w w' := by
  unfold PgVal
  obtain ⟨ad, cd, rfl, -, -, -, -⟩ := id hv
  clear hv
  obtain ⟨n1, hn1⟩ : ∃ n, n = w.heap.size := ⟨_, rfl⟩
  obtain ⟨l, hl⟩ : ∃ l, l = p.data.length := ⟨_, rfl⟩
  rw [← hl]
  clear hl
  go_enter Tryd.func13, Tryd.ntmps13
  go_upto_region 1 with fail
  obtain ⟨hr1, hr2⟩ := box_two w (.cells #[.int .u32 p.gen, .int .u32 p.serial, .int .u32 p.number, .int .u8 p.kind, .slice ad l cd] 25) (.cells #[.int .u32 0, .int .u32 0, .int .u32 0, .int .u8 0, .slice none 0 0] 34)
  have hb := bal (bal (bre w) (.cells #[.int .u32 p.gen, .int .u32 p.serial, .int .u32 p.number, .int .u8 p.kind, .slice ad l cd] 25)) (.cells #[.int .u32 0, .int .u32 0, .int .u32 0, .int .u8 0, .slice none 0 0] 34)
  generalize (w.alloc (.cells #[.int .u32 p.gen, .int .u32 p.serial, .int .u32 p.number, .int .u8 p.kind, .slice ad l cd] 25)).alloc (.cells #[.int .u32 0, .int .u32 0, .int .u32 0, .int .u8 0, .slice none 0 0] 34) = W at *
  rw [← hn1] at hr1 hr2 ⊢
  obtain ⟨n2, hn2⟩ : ∃ n, n = n1 + 1 := ⟨_, rfl⟩
  rw [← hn2] at hr2
  try rw [← hn2]
  obtain ⟨q1, q2, q3⟩ := page_put p (.slice ad l cd) hr2
  have r0 := cell_of_row W n1 0 _ _ _ hr1
  have r1 := cell_of_row W n1 1 _ _ _ hr1
  have r2 := cell_of_row W n1 2 _ _ _ hr1
  have r3 := cell_of_row W n1 3 _ _ _ hr1
  have r4 := cell_of_row W n1 4 _ _ _ hr1
  have z0 := cell_of_row W n2 0 _ _ _ hr2
  have z1 := cell_of_row W n2 1 _ _ _ hr2
  have z2 := cell_of_row W n2 2 _ _ _ hr2
  have z3 := cell_of_row W n2 3 _ _ _ hr2
  have z4 := cell_of_row W n2 4 _ _ _ hr2
  have zf := fun i => frozen_of_row W n2 i _ _ hr2
  have hb2 := q3 _ w (by omega) hb
  have HB2 := Lib.hid hb2
  have Q1 := Lib.hid q1
  clear hb2 q1 q2 q3 hb hr1 hr2 hn1 hn2
  go_wp2_with fail
  have q1 := Q1.out
  have hb2 := HB2.out
  generalize (((((W.setCell ⟨n2, 0, none⟩ (.int .u32 p.gen)).setCell ⟨n2, 1, none⟩ (.int .u32 p.serial)).setCell ⟨n2, 2, none⟩ (.int .u32 p.number)).setCell ⟨n2, 3, none⟩ (.int .u8 p.kind)).setCell ⟨n2, 4, none⟩ (.slice ad l cd)) = W9 at *
  have g0 := cell_of_row W9 n2 0 _ _ _ q1
  have g1 := cell_of_row W9 n2 1 _ _ _ q1
  have g2 := cell_of_row W9 n2 2 _ _ _ q1
  have g3 := cell_of_row W9 n2 3 _ _ _ q1
  have g4 := cell_of_row W9 n2 4 _ _ _ q1
  exact bodyPost_ret (v := .agg #[.int .u32 p.gen, .int .u32 p.serial, .int .u32 p.number, .int .u8 p.kind, .slice ad l cd]) (by simp [results, Tryd.results13, go_sem, g0, g1, g2, g3, g4]) rfl ⟨rfl, hb2⟩

def Pg.cut (p : Pg) (n : Nat) : Pg := { p with data := p.data.take n }

set_option maxRecDepth 10000 in
set_option maxHeartbeats 800000 in
theorem few_any (vd : Value) (p : Pg) (w : World) (hv : Bytes w vd p.data) :
    Calls Tryd.prog 9 #[PgVal p vd] w fun e w' => ∃ vd', e = .returned (PgVal (p.cut 520) vd') ∧ Own8 5 w.heap.size w' vd' (p.cut 520).data ∧ Below w.heap.size w w' := by
  have HV := Lib.hid hv
  unfold PgVal Pg.cut
  obtain ⟨ad, cd, rfl, -, -, -, -⟩ := id hv
  clear hv
  obtain ⟨n1, hn1⟩ : ∃ n, n = w.heap.size := ⟨_, rfl⟩
  obtain ⟨l, hl⟩ : ∃ l, l = p.data.length := ⟨_, rfl⟩
  rw [← hl] at HV ⊢
  clear hl
  go_enter Tryd.func9, Tryd.ntmps9
  go_upto_region 1 with fail
  obtain ⟨hr1, hr2⟩ := box_two w (.cells #[.int .u32 p.gen, .int .u32 p.serial, .int .u32 p.number, .int .u8 p.kind, .slice ad l cd] 25) (.cells #[.int .u32 0, .int .u32 0, .int .u32 0, .int .u8 0, .slice none 0 0] 25)
  have hb := bal (bal (bre w) (.cells #[.int .u32 p.gen, .int .u32 p.serial, .int .u32 p.number, .int .u8 p.kind, .slice ad l cd] 25)) (.cells #[.int .u32 0, .int .u32 0, .int .u32 0, .int .u8 0, .slice none 0 0] 25)
  generalize (w.alloc (.cells #[.int .u32 p.gen, .int .u32 p.serial, .int .u32 p.number, .int .u8 p.kind, .slice ad l cd] 25)).alloc (.cells #[.int .u32 0, .int .u32 0, .int .u32 0, .int .u8 0, .slice none 0 0] 25) = W at *
  rw [← hn1] at hr1 hr2 ⊢
  obtain ⟨n2, hn2⟩ : ∃ n, n = n1 + 1 := ⟨_, rfl⟩
  rw [← hn2] at hr2
  try rw [← hn2]
  have r4 := cell_of_row W n1 4 _ _ _ hr1
  have HV2 := Lib.hid (HV.out.below hb)
  have HR1 := Lib.hid hr1
  have HR2 := Lib.hid hr2
  have HB := Lib.hid hb
  have HN2 := Lib.hid hn2
  have HN1 := Lib.hid hn1
  clear hr1 hr2 hb hn1 hn2 HV
  go_wp2_with fail
  refine (cut_any _ p.data 520 (by omega) (by omega) W HV2.out).mono ?_
  rintro e w3 ⟨v3, rfl, ho3, hb3⟩
  rw [show (520 : Int).toNat = 520 by rfl] at ho3
  have hr1 := (hb3.block n1 (Array.getElem?_eq_some_iff.1 HR1.out).1).trans HR1.out
  have hr2 := (hb3.block n2 (Array.getElem?_eq_some_iff.1 HR2.out).1).trans HR2.out
  have hl1 := (Array.getElem?_eq_some_iff.1 HR1.out).1
  have hl2 := (Array.getElem?_eq_some_iff.1 HR2.out).1
  obtain ⟨a3, m3, c3, rfl⟩ := ho3.isSlice
  have r4' := cell_of_row w3 n1 4 _ _ _ hr1
  have rf := fun i => frozen_of_row w3 n1 i _ _ hr1
  have hne : n2 ≠ n1 := by have := HN2.out; omega
  have hpm := page_mid (.slice a3 m3 c3) (HB.out.trans (hb3.mono HB.out.size)) (by have := HN1.out; omega) hne hr2 hr1
  have HPM := Lib.hid hpm
  have HO3 := Lib.hid ho3
  have HB3 := Lib.hid hb3
  have HL1 := Lib.hid hl1
  have HL2 := Lib.hid hl2
  clear hpm ho3 hb3 hr1 hr2 hl1 hl2 r4 hne
  go_upto_region 2 with fail
  obtain ⟨hc10, hr10, hb10, ho10⟩ := HPM.out
  generalize w3.setCell ⟨n1, 4, none⟩ (.slice a3 m3 c3) = W10 at *
  have z0 := cell_of_row W10 n2 0 _ _ _ hc10
  have z1 := cell_of_row W10 n2 1 _ _ _ hc10
  have z2' := cell_of_row W10 n2 2 _ _ _ hc10
  have z3 := cell_of_row W10 n2 3 _ _ _ hc10
  have z4 := cell_of_row W10 n2 4 _ _ _ hc10
  have zf := fun i => frozen_of_row W10 n2 i _ _ hc10
  have r0 := cell_of_row W10 n1 0 _ _ _ hr10
  have r1 := cell_of_row W10 n1 1 _ _ _ hr10
  have r2 := cell_of_row W10 n1 2 _ _ _ hr10
  have r3 := cell_of_row W10 n1 3 _ _ _ hr10
  have r4 := cell_of_row W10 n1 4 _ _ _ hr10
  obtain ⟨q1, q2, q3⟩ := page_put p (.slice a3 m3 c3) hc10
  have hb2 := q3 _ w (by have := HN1.out; have := HN2.out; omega) hb10
  have HB2 := Lib.hid hb2
  have Q1 := Lib.hid q1
  have Q2 := Lib.hid q2
  have HO10 := Lib.hid ho10
  clear hb2 q1 q2 q3 ho10 hb10 hc10 hr10 r4' rf HPM
  go_wp2_with fail
  have q1 := Q1.out
  have hb2 := HB2.out
  have q2 := Q2.out
  generalize (((((W10.setCell ⟨n2, 0, none⟩ (.int .u32 p.gen)).setCell ⟨n2, 1, none⟩ (.int .u32 p.serial)).setCell ⟨n2, 2, none⟩ (.int .u32 p.number)).setCell ⟨n2, 3, none⟩ (.int .u8 p.kind)).setCell ⟨n2, 4, none⟩ (.slice a3 m3 c3)) = W9 at *
  have g0 := cell_of_row W9 n2 0 _ _ _ q1
  have g1 := cell_of_row W9 n2 1 _ _ _ q1
  have g2 := cell_of_row W9 n2 2 _ _ _ q1
  have g3 := cell_of_row W9 n2 3 _ _ _ q1
  have g4 := cell_of_row W9 n2 4 _ _ _ q1
  have hown := own_only HO3.out ((HO10.out.mono (fun q _ h => (Or.inl h : q = n1 ∨ q = n2))).trans q2 fun _ _ h => Or.inr h) (fun k hk e => by
    have h1 := (World.ownsRow.lt HO3.out k hk).1
    have h2 := HL1.out
    have h3 := HL2.out
    rcases e with e | e <;> omega)
  refine bodyPost_ret (v := .agg #[.int .u32 p.gen, .int .u32 p.serial, .int .u32 p.number, .int .u8 p.kind, .slice a3 m3 c3]) (by simp [results, Tryd.results9, go_sem, g0, g1, g2, g3, g4]) rfl ⟨_, rfl, ?_, hb2⟩
  exact Own8.kept hown HB.out.size (bre W9)

set_option maxRecDepth 10000 in
set_option maxHeartbeats 1600000 in
theorem like_any (u v : Value) (a b : Pg) (w : World) (hu : PgAt w u a) (hv : PgAt w v b) :
    Calls Tryd.prog 20 #[u, v] w fun e w' => e = .returned (.bool (pgSame a b)) ∧ Below w.heap.size w w' := by
  obtain ⟨ua, rfl, hua⟩ := hu
  obtain ⟨vb, rfl, hvb⟩ := hv
  obtain ⟨aa, ca, rfl, -, -, -, -⟩ := id hua
  obtain ⟨ab, cb, rfl, -, -, -, -⟩ := id hvb
  have HU := Lib.hid hua
  have HV := Lib.hid hvb
  clear hua hvb
  unfold pgSame
  rw [← eqI, ← eqI, ← eqI, ← eqI]
  obtain ⟨b1, h1⟩ : ∃ x, x = ((a.gen : Int) == (b.gen : Int)) := ⟨_, rfl⟩
  obtain ⟨b2, h2⟩ : ∃ x, x = ((a.serial : Int) == (b.serial : Int)) := ⟨_, rfl⟩
  obtain ⟨b3, h3⟩ : ∃ x, x = ((a.number : Int) == (b.number : Int)) := ⟨_, rfl⟩
  obtain ⟨b4, h4⟩ : ∃ x, x = ((a.kind : Int) == (b.kind : Int)) := ⟨_, rfl⟩
  rw [← h1, ← h2, ← h3, ← h4]
  have k1 := h1.symm
  have k2 := h2.symm
  have k3 := h3.symm
  have k4 := h4.symm
  clear h1 h2 h3 h4
  have heq := fun (w' : World) (hb : Below w.heap.size w w') => same_any _ _ a.data b.data w' (HU.out.below hb) (HV.out.below hb)
  have HEQ := Lib.hid heq
  clear heq
  cases b1 with
  | false =>
    go_enter Tryd.func20, Tryd.ntmps20
    go_wp2_with fail
    go_ret
    exact ⟨rfl, btr (bal (bre w) _) (bal (bre _) _)⟩
  | true =>
    cases b2 with
    | false =>
      go_enter Tryd.func20, Tryd.ntmps20
      go_wp2_with fail
      go_ret
      exact ⟨rfl, btr (bal (bre w) _) (bal (bre _) _)⟩
    | true =>
      cases b3 with
      | false =>
        go_enter Tryd.func20, Tryd.ntmps20
        go_wp2_with fail
        go_ret
        exact ⟨rfl, btr (bal (bre w) _) (bal (bre _) _)⟩
      | true =>
        cases b4 with
        | false =>
          go_enter Tryd.func20, Tryd.ntmps20
          go_wp2_with fail
          go_ret
          exact ⟨rfl, btr (bal (bre w) _) (bal (bre _) _)⟩
        | true =>
          go_enter Tryd.func20, Tryd.ntmps20
          go_wp2_with fail
          refine (HEQ.out _ (btr (bal (bre w) _) (bal (bre _) _))).mono ?_
          rintro e w2 ⟨rfl, n2, rfl⟩
          go_wp2_with fail
          go_ret
          exact ⟨rfl, bdn (btr (bal (bre w) _) (bal (bre _) _)) n2⟩
end Go.Proofs.YtbdjjjnajkeceaaDoor
