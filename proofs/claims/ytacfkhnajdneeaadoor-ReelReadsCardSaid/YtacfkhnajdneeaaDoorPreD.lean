/- Merged: RlLay RlRec RlCutW Ref5 RlTake RlRefB RlRefA. -/
import Derived.Test.YtacfkhnajdneeaaDoorPreB
import Derived.Test.YtacfkhnajdneeaaDoorPreA
import Derived.RegionTactic
import Derived.BigRegion
import Derived.StillTailTactics
/- Walk: records are laid in a row. -/
namespace Go.Proofs.YtacfkhnajdneeaaDoor
open Go.RowKit

theorem strOf_size (x : List UInt8) : (strOf x).size = x.length := by unfold strOf; simp [ByteArray.size]

theorem layAll_snoc (ls : List (List UInt8)) (k : Nat) (h : k < ls.length) : layAll (ls.take (k + 1)) = layAll (ls.take k) ++ layOne ls[k] := by
  rw [List.take_succ_eq_append_getElem h, layAll_app, layAll_one]
theorem layAll_take_len (ls : List (List UInt8)) (k : Nat) : (layAll (ls.take k)).length ≤ (layAll ls).length := by
  have h : layAll ls = layAll (ls.take k) ++ layAll (ls.drop k) := by rw [← layAll_app, List.take_append_drop]
  rw [h, List.length_append]
  omega

set_option linter.unusedSimpArgs false in
set_option maxRecDepth 20000 in
set_option maxHeartbeats 1600000 in
theorem rlay_any (v : Value) (ls : List (List UInt8)) (w : World) (hv : Rows8 w v ls) (hx : ∀ x ∈ ls, x.length ≤ 1000000) (hbig : (layAll ls).length ≤ 100000000) :
    Calls Tryd.prog 12 #[v] w fun e w' => ∃ v', e = .returned v' ∧ Own8 5 w.heap.size w' v' (layAll ls) ∧ Below w.heap.size w w' := by
  obtain ⟨a, c, rfl, hm, hc, _, hrow⟩ := hv
  unfold maxLen at hm
  have HR := Lib.hid hrow
  have HX := Lib.hid hx
  have HBIG := Lib.hid hbig
  obtain ⟨L, hL⟩ : ∃ L, L = ls.length := ⟨_, rfl⟩
  rw [← hL] at hm hc ⊢
  have HL := Lib.hid hL
  clear hrow hx hbig hL
  go_enter Tryd.func12, Tryd.ntmps12
  go_wp2_with fail
  go_loopw [3, 5, 6, 9] (fun out _ _ i wr => ∃ k : Nat, k ≤ L ∧ i = .int .i64 k ∧ Hid (Own8 5 w.heap.size wr out (layAll (ls.take k))) ∧ Hid (Below w.heap.size w wr)) (fun _ _ _ i _ => L - (intOf i).toNat)
  case atStart => exact ⟨0, by omega, rfl, Lib.hid (Own8.nil _ _ _), Lib.hid (bre w)⟩
  case round =>
    obtain ⟨k, hk, rfl, hown, hb⟩ := hrel
    by_cases hlt : k < L
    · have hkl : k < ls.length := by rw [← HL.out]; exact hlt
      rcases HR.out with h0 | ⟨g, o, rfl, hcell⟩
      · rw [h0] at hkl; simp at hkl
      · obtain ⟨u, hu, hbu⟩ := hcell k _ (List.getElem?_eq_getElem hkl)
        have hg : g < w.heap.size := block_lt_of_cell hu
        have hu' : wr.cell? ⟨g, o + k, none⟩ = some u := (hb.out.cell hg).trans hu
        have hbu' : Bytes wr u ls[k] := hbu.below hb.out
        have hxl := HX.out _ (List.getElem_mem hkl)
        have hts := layAll_snoc ls k hkl
        have HTS := Lib.hid hts
        have hlen : (layAll (ls.take k)).length + (layOne ls[k]).length ≤ 100000000 := by
          have h1 := layAll_take_len ls (k + 1)
          have h2 := HBIG.out
          rw [hts, List.length_append] at h1
          omega
        obtain ⟨l, hl⟩ : ∃ l, l = layAll (ls.take k) := ⟨_, rfl⟩
        rw [← hl] at hown hlen
        have HLL := Lib.hid hl
        clear hcell hu hbu hts hl
        generalize ls[k] = x at *
        have hst := run_str (P := Tryd.prog) wr 23 9 5 u x hbu' Tryd.underlying23 Tryd.underlying5 Tryd.underlying9
        obtain ⟨au, cu, rfl, -, -, -, -⟩ := id hbu'
        go_upto_region 6 with fail
        have hb6 := bal (bre wr) (.cells #[.slice none 0 0] 80)
        have hn6 := NilW.new wr wr.heap.size rfl
        generalize hW6 : wr.alloc (.cells #[.slice none 0 0] 80) = w6 at *
        obtain ⟨n6, hn6e⟩ : ∃ n, n = wr.heap.size := ⟨_, rfl⟩
        rw [← hn6e] at hn6 ⊢
        have hst6 := run_str (P := Tryd.prog) w6 23 9 5 _ x (hbu'.below hb6) Tryd.underlying23 Tryd.underlying5 Tryd.underlying9
        have HB6 := Lib.hid (btr hb.out hb6)
        have HO6 := Lib.hid (Own8.kept hown.out (Nat.le_refl _) hb6)
        have HN6 := Lib.hid hn6
        have HGE : Hid (w.heap.size ≤ n6) := Lib.hid (by rw [hn6e]; exact hb.out.size)
        clear hst hb6 hn6 hW6 hn6e hu' hbu' hown hb
        go_wp2_with fail
        refine (wtext_any w6.heap.size n6 [] (strOf x) w6 (by rw [strOf_size]; omega) (HN6.out.at _) (by simp) (Nat.le_refl _)).mono ?_
        rintro e w7 ⟨rfl, hw7, hg7⟩
        have ho7 := hg7.nil HN6.out
        have HB7 : Hid (Below w.heap.size w w7) := Lib.hid (HB6.out.trans (ho7.below w.heap.size HB6.out.size fun q hq e => by have := HGE.out; omega))
        have HO7 : Hid (Own8 5 w.heap.size w7 u3 l) := Lib.hid (own_only HO6.out ho7 (fun q hq e => by
          subst e
          exact own8_ne HO6.out HN6.out (by decide) hq))
        have hw7' : WriterAt w6.heap.size w7 n6 (layOne x) := hw7
        have HW7 := Lib.hid hw7'
        clear hw7 hg7 ho7 hw7' hst6 HB6 HO6 HN6
        go_wp2_with fail
        refine (wbytes_any w6.heap.size n6 (layOne x) w7 HW7.out (by omega)).mono ?_
        rintro e w8 ⟨v8, rfl, ho8, hb8⟩
        have HB8 := Lib.hid (btr HB7.out hb8)
        have HO8 := Lib.hid (Own8.kept HO7.out (Nat.le_refl _) hb8)
        have HV8 := Lib.hid ho8.bytes
        obtain ⟨a8, c8, rfl, -, -, -, -⟩ := id ho8.bytes
        have hsz := HB8.out.size
        clear ho8 hb8 HB7 HO7 HW7
        go_wp2_with (at_builtin; refine wpList_app8 rfl _ _ 23 5 row8 rfl w.heap.size _ l rfl HO8.out _ (layOne x) rfl HV8.out (by omega) hsz ?_; intro v' w9 h9 _ hb9)
        have HB9 := Lib.hid (HB8.out.trans hb9)
        rw [HLL.out, ← HTS.out] at h9
        have HO9 := Lib.hid h9
        clear hb9 h9 HB8 HO8 HV8 HLL HTS hlen hsz hxl
        go_wp2_with fail
        go_roundw
        case rel => exact ⟨k + 1, by omega, by go_num, HO9, HB9⟩
        case measure => simp [intOf]; try omega
    · have e : k = L := by omega
      subst e
      have hl : ls.take k = ls := List.take_of_length_le (by rw [← HL.out]; exact Nat.le_refl _)
      rw [hl] at hown
      clear hl hlt hk HR HX
      go_wp2_with fail
      go_ret
      exact ⟨_, rfl, hown.out, hb.out⟩
end Go.Proofs.YtacfkhnajdneeaaDoor
/- Records that lie in memory, in a row of one's own. -/
namespace Go.Proofs.YtacfkhnajdneeaaDoor
open Go.RowKit

/-- bytes that lie in a block of bytes, not below base -/
def Rec8 (base : Nat) (w : World) (u : Value) (l : List UInt8) : Prop :=
  Bytes w u l ∧ ∀ k o n c, l ≠ [] → u = .slice (some ⟨k, o, none⟩) n c → base ≤ k ∧ ∃ cs fr, w.heap[k]? = some (.cells cs 5 fr)

theorem Rec8.only {base : Nat} {w w' : World} {u : Value} {l : List UInt8} {S : Nat → Prop} (h : Rec8 base w u l) (ho : Only w w' S) (hs : ∀ k, S k → ∀ cs fr, w.heap[k]? ≠ some (.cells cs 5 fr)) : Rec8 base w' u l := by
  obtain ⟨h1, h2⟩ := h
  refine ⟨h1.only ho fun g o n c hl e hS => ?_, fun k o n c hl e => ?_⟩
  · obtain ⟨-, cs, fr, hg⟩ := h2 g o n c hl e
    exact hs g hS cs fr hg
  · obtain ⟨hk, cs, fr, hg⟩ := h2 k o n c hl e
    exact ⟨hk, cs, fr, (ho.block k (Array.getElem?_eq_some_iff.1 hg).1 (fun hS => hs k hS cs fr hg)).trans hg⟩
theorem Rec8.below {base : Nat} {w w' : World} {u : Value} {l : List UInt8} (h : Rec8 base w u l) (hb : Below w.heap.size w w') : Rec8 base w' u l := h.only (Only.of_below hb fun _ => False) fun _ h => h.elim
theorem Rec8.of_own {base : Nat} {w : World} {u : Value} {l : List UInt8} (h : Own8 5 base w u l) : Rec8 base w u l := by
  refine ⟨h.bytes, fun k o n c hl e => ?_⟩
  rcases h.2 with ⟨rfl, h0⟩ | ⟨g, c', cur, rfl, hb, hg, -⟩
  · cases e
  · cases e
    exact ⟨hb, cur, _, hg⟩
theorem Rec8.oneCell {base : Nat} {w : World} {u : Value} {l : List UInt8} (h : Rec8 base w u l) : u.oneCell' = true := by
  obtain ⟨a, c, rfl, _⟩ := h.1
  rfl

theorem Rec8.isSlice {base : Nat} {w : World} {u : Value} {l : List UInt8} (h : Rec8 base w u l) : ∃ a n c, u = .slice a n c := by
  obtain ⟨a, c, rfl, _⟩ := h.1
  exact ⟨_, _, _, rfl⟩
theorem Rec8.low {base base' : Nat} {w : World} {u : Value} {l : List UInt8} (h : Rec8 base w u l) (hb : base' ≤ base) : Rec8 base' w u l :=
  ⟨h.1, fun k o n c hl e => ⟨Nat.le_trans hb (h.2 k o n c hl e).1, (h.2 k o n c hl e).2⟩⟩

/-- '[]byte(s)' -/
theorem wpList_textRec {P : Program} {w : World} {ops : Array Oper} {rest : List Oper} {o : Oper} {a : Act} {Q : Exit → Act → World → Prop} (hgd : o.guard = none) (src dst : TypeId) (x : Operand) (ho : o.op = .convert src dst x)
    (s : ByteArray) (hx : a.eval x = .string s) (hs : P.underlying src = some .string) (hd : P.underlying dst = some (.slice 5)) (he : P.underlying 5 = some (.int .u8)) (hsz : s.size ≤ maxLen)
    (h : ∀ v' w', Rec8 w.heap.size w' v' s.data.toList → Below w.heap.size w w' → wpList P ops Q rest (a.put o.dst v') w') : wpList P ops Q (o :: rest) a w := by
  have hrun := run_bytes_of_string (P := P) w src dst 5 s hs hd he
  obtain ⟨v', w', hr, h1, h2⟩ := run_text (P := P) w src dst 5 s hs hd he hsz
  have hsame := hrun.symm.trans hr
  simp only [Result.ok.injEq] at hsame
  obtain ⟨hv, hw⟩ := hsame
  have hrec : Rec8 w.heap.size w' v' s.data.toList := by
    refine ⟨h1, fun k o n c hl e => ?_⟩
    rw [← hv] at e
    cases e
    have hnew := heap_alloc_new w.drew (.cells (bytesRow s (grownCap w s.size 0 5)) 5 ((bytesRow s (grownCap w s.size 0 5)).size, (bytesRow s (grownCap w s.size 0 5)).size + 1))
    rw [hw] at hnew
    exact ⟨Nat.le_refl _, _, _, hnew⟩
  refine wpList_yields hgd v' w' ?_ (h v' w' hrec h2)
  unfold execOp
  simp only [ho, hx, Sem.run_bind, hr, Result.andThen_ok]
  rfl

/-- rows of bytes, the row one's own -/
def RecsAt (base : Nat) (w : World) (v : Value) (ls : List (List UInt8)) : Prop :=
  ∃ us : List Value, us.length = ls.length ∧ w.ownsRow base 23 1 v us.length us ∧ ∀ (j : Nat) u l, us[j]? = some u → ls[j]? = some l → Rec8 base w u l

theorem RecsAt.nil (base : Nat) (w : World) : RecsAt base w (.slice none 0 0) [] := ⟨[], rfl, World.ownsRow_nil _ _ _ _, fun j u l h => by simp at h⟩
theorem RecsAt.only {base : Nat} {w w' : World} {v : Value} {ls : List (List UInt8)} {S : Nat → Prop} (h : RecsAt base w v ls) (ho : Only w w' S) (hs : ∀ k, S k → (∀ cs fr, w.heap[k]? ≠ some (.cells cs 5 fr)) ∧ v.ownBlock ≠ some k) : RecsAt base w' v ls := by
  obtain ⟨us, h1, h2, h3⟩ := h
  exact ⟨us, h1, own_only h2 ho (fun k hk e => (hs k e).2 hk), fun j u l hu hl => (h3 j u l hu hl).only ho fun k hk => (hs k hk).1⟩
theorem RecsAt.below {base : Nat} {w w' : World} {v : Value} {ls : List (List UInt8)} (h : RecsAt base w v ls) (hb : Below w.heap.size w w') : RecsAt base w' v ls := h.only (Only.of_below hb fun _ => False) fun _ h => h.elim
theorem RecsAt.rows {base : Nat} {w : World} {v : Value} {ls : List (List UInt8)} (h : RecsAt base w v ls) : Rows8 w v ls := by
  obtain ⟨vs, h1, h2, h3⟩ := h
  obtain ⟨a, c, rfl, hc, hm, hn, hl, _⟩ := ownsRow_lies h2
  rw [h1] at hc
  refine ⟨a, c, by rw [h1], Nat.le_trans hc hm, hc, hn, ?_⟩
  rcases hl with h0 | ⟨g, o, ha, hr⟩
  · subst h0
    exact .inl (List.length_eq_zero_iff.1 h1.symm)
  · refine .inr ⟨g, o, ha, fun j x hx => ?_⟩
    have hj : j < vs.length := by have := (List.getElem?_eq_some_iff.1 hx).1; omega
    exact ⟨vs[j], hr j _ (List.getElem?_eq_getElem hj), (h3 j _ x (List.getElem?_eq_getElem hj) hx).1⟩

theorem rowR : RowTy Tryd.prog 22 23 1 24 := RowTy.mk' (z := .slice none 0 0) Tryd.underlying22 (by kernel_rfl) rfl (by omega)

/-- 'own = append(own, u)': one record more -/
theorem wpList_appRec {w : World} {ops : Array Oper} {rest : List Oper} {o : Oper} {a : Act} {Q : Exit → Act → World → Prop} (hgd : o.guard = none) (s x : Operand)
    (ho : o.op = .call { callee := .builtin .append, args := #[s, x], argTypes := #[22, 22] })
    (base : Nat) (v : Value) (ls : List (List UInt8)) (hs : a.eval s = v) (hown : RecsAt base w v ls)
    (u : Value) (l : List UInt8) (hu : Rec8 base w u l) (n : Nat) (hn : n = w.heap.size) (hx : a.eval x = .slice (some ⟨n, 0, none⟩) 1 1) (hlen : ls.length ≤ 1000000000) (hbase : base ≤ w.heap.size)
    (h : ∀ v' w', RecsAt base w' v' (ls ++ [l]) → Below base w w' → wpList Tryd.prog ops Q rest (a.put o.dst v') w') : wpList Tryd.prog ops Q (o :: rest) a (w.alloc (.cells #[u] 23)) := by
  subst hn
  obtain ⟨vs, h1, h2, h3⟩ := hown.below (bal (bre w) (.cells #[u] 23))
  have hu2 := hu.below (bal (bre w) (.cells #[u] 23))
  have hBw : Below base w (w.alloc (.cells #[u] 23)) := (Below.refl _ _).alloc hbase _
  refine wpList_app hgd s x 22 23 1 24 rowR ho base v vs.length vs hs h2 _ 1 1 [u] hx rfl (lies_one _ _ _) (Nat.le_refl _) (fun h => by cases h) ?_ (by unfold maxLen; omega) (by omega) (by simp; omega) ?_
  · intro u' hu'
    simp at hu'
    subst hu'
    exact hu.oneCell
  · intro v' w' g1 g2 g3
    refine h v' w' ⟨vs ++ [u], by simp [h1], by simpa using g1, ?_⟩ (hBw.trans g3)
    intro j u' l' hj hl'
    have hkeep : ∀ {u'' : Value} {l'' : List UInt8}, Rec8 base (w.alloc (.cells #[u] 23)) u'' l'' → Rec8 base w' u'' l'' := fun hh =>
      hh.only (Only.of_grown g2) fun k hk cs fr e => own_ne h2 e (by decide) hk
    by_cases hjl : j < vs.length
    · rw [List.getElem?_append_left hjl] at hj
      rw [List.getElem?_append_left (by omega)] at hl'
      exact hkeep (h3 j u' l' hj hl')
    · rw [List.getElem?_append_right (by omega)] at hj
      rw [List.getElem?_append_right (by omega)] at hl'
      have h0 : j - vs.length = 0 := by have := (List.getElem?_eq_some_iff.1 hj).1; simp at this; omega
      have h0' : j - ls.length = 0 := by omega
      rw [h0] at hj
      rw [h0'] at hl'
      simp at hj hl'
      subst hj hl'
      exact hkeep hu2
end Go.Proofs.YtacfkhnajdneeaaDoor
/- Walk: bytes are cut into records. -/
namespace Go.Proofs.YtacfkhnajdneeaaDoor
open Go.RowKit

theorem rd_keep {B : Nat} {w w' : World} {v : Value} {o : Option (List UInt8)} (h : RdAt B w v o) (hb : Below w.heap.size w w') : RdAt B w' v o := by
  rcases h with ⟨h1, h2⟩ | ⟨g, u, h1, h2, ⟨h3, h4⟩ | ⟨l, h3, h4, h5, h6⟩⟩
  · exact .inl ⟨h1, h2⟩
  · exact .inr ⟨g, u, h1, h2, .inl ⟨h3, (hb.block g (Array.getElem?_eq_some_iff.1 h4).1).trans h4⟩⟩
  · exact .inr ⟨g, u, h1, h2, .inr ⟨l, h3, (hb.block g (Array.getElem?_eq_some_iff.1 h4).1).trans h4, h5.below hb, h6⟩⟩

theorem rd_low {B : Nat} {w w' : World} {v : Value} {o : Option (List UInt8)} (h : RdAt B w v o) (hb : Below B w w') : RdAt B w' v o := by
  rcases h with h | ⟨g, u, rfl, hg, h⟩
  · exact .inl h
  · rcases h with ⟨rfl, h⟩ | ⟨l, rfl, h, hy, hB⟩
    · exact .inr ⟨g, undef, rfl, hg, .inl ⟨rfl, (hb.block g hg).trans h⟩⟩
    · refine .inr ⟨g, u, rfl, hg, .inr ⟨l, rfl, (hb.block g hg).trans h, ?_, hB⟩⟩
      obtain ⟨a, c, rfl, h1, h2, h3, h4⟩ := hy
      refine ⟨a, c, rfl, h1, h2, h3, ?_⟩
      by_cases hl : l = []
      · exact .inl hl
      · rcases h4 with h4 | ⟨k, i, rfl, h4⟩
        · exact .inl h4
        · exact .inr ⟨k, i, rfl, fun j x hx => by
            obtain ⟨y, hy, hr⟩ := h4 j x hx
            exact ⟨y, (hb.cell (p := ⟨k, i + j, none⟩) (hB _ _ _ _ hl rfl)).trans hy, hr⟩⟩

theorem RecsAt.base {base base' : Nat} {w : World} {v : Value} {ls : List (List UInt8)} (h : RecsAt base w v ls) (hb : base' ≤ base) : RecsAt base' w v ls := by
  obtain ⟨us, h1, h2, h3⟩ := h
  exact ⟨us, h1, ownsRow_base h2 hb, fun j u l hu hl => (h3 j u l hu hl).low hb⟩

/-- the block of a reader is none of bytes, and none of rows -/
theorem rd_block {B : Nat} {w : World} {v : Value} {o : Option (List UInt8)} (h : RdAt B w v o) {k : Nat} (hk : v = .pointer (some ⟨k, 0, none⟩)) : ∃ cs, w.heap[k]? = some (.cells cs 117 (0, 0)) := by
  rcases h with ⟨h1, h2⟩ | ⟨g, u, h1, h2, ⟨h3, h4⟩ | ⟨l, h3, h4, h5, h6⟩⟩
  · rw [h1] at hk; cases hk
  · rw [h1] at hk; cases hk; exact ⟨_, h4⟩
  · rw [h1] at hk; cases hk; exact ⟨_, h4⟩

theorem text_cut {q : List UInt8} : (∃ s r, cutOne q = some (s, r) ∧ Rd.text 65536 (some q) = (s, some r)) ∨ (cutOne q = none ∧ Rd.text 65536 (some q) = ([], none)) := by
  unfold cutOne
  cases h : Rd.text 65536 (some q) with
  | mk s o =>
    cases o with
    | some r => exact .inl ⟨s, r, rfl, rfl⟩
    | none =>
      refine .inr ⟨rfl, ?_⟩
      unfold Rd.text at h
      split at h
      · split at h
        · cases h
        · cases h; rfl
      · cases h; rfl

set_option linter.unusedSimpArgs false in
set_option maxRecDepth 20000 in
set_option maxHeartbeats 1600000 in
theorem rcut_any (v : Value) (p : List UInt8) (w : World) (hv : Bytes w v p) (hp : p.length ≤ 100000000) :
    Calls Tryd.prog 13 #[v] w fun e w' => ∃ v', e = .returned (.tuple #[v', .int .i64 (layAll (cutL p)).length]) ∧ RecsAt w.heap.size w' v' (cutL p) ∧ Below w.heap.size w w' := by
  obtain ⟨a, c, rfl, hm, hc, -, -⟩ := id hv
  have HV := Lib.hid hv
  obtain ⟨L, hL⟩ : ∃ L, L = p.length := ⟨_, rfl⟩
  rw [← hL] at hm hc hp HV ⊢
  have HL := Lib.hid hL
  clear hv hL
  go_enter Tryd.func13, Tryd.ntmps13
  go_wp2_with fail
  refine (tread_any _ p w HV.out (by rw [← HL.out]; omega)).mono ?_
  rintro e w1 ⟨rv, rfl, hrd, hb1, hrn⟩
  obtain ⟨B, hB⟩ : ∃ B, B = w1.heap.size := ⟨_, rfl⟩
  rw [← hB] at hrd
  have HBS : Hid (w.heap.size ≤ B) := Lib.hid (by rw [hB]; exact hb1.size)
  have HBW : Hid (B ≤ w1.heap.size) := Lib.hid (by rw [hB]; exact Nat.le_refl _)
  have HB1 := Lib.hid hb1
  have HRN := Lib.hid hrn
  have HRD := Lib.hid hrd
  clear hrd hb1 hrn hB
  go_wp2_with fail
  go_loopw [4, 5, 7] (fun out at_ _ wr => ∃ (ls : List (List UInt8)) (q : List UInt8) (m : Nat), at_ = .int .i64 m ∧ m + q.length = L ∧ Hid (m = (layAll ls).length) ∧ Hid (cutL p = ls ++ cutL q) ∧ Hid (p = layAll ls ++ q) ∧ ls.length ≤ m ∧ Hid (RecsAt B wr out ls) ∧ Hid (RdAt B wr rv (some q)) ∧ Hid (Below w.heap.size w wr) ∧ Hid (B ≤ wr.heap.size)) (fun _ at_ _ _ => L - (intOf at_).toNat)
  case atStart => exact ⟨[], p, 0, rfl, by rw [HL.out]; omega, Lib.hid rfl, Lib.hid rfl, Lib.hid rfl, Nat.le_refl _, Lib.hid (RecsAt.nil _ _), HRD, HB1, HBW⟩
  case round =>
    obtain ⟨ls, q, m, rfl, hmq, hml, hcut, hpq, hlsm, hout, hrd, hbl, hbw⟩ := hrel
    clear HRD HB1 HBW
    have hqL : (Rd.left (some q) : Int) = (q.length : Int) := rfl
    go_wp2_with fail
    refine (left_any B rv (some q) wr hrd.out).mono ?_
    rintro e w2 ⟨rfl, hw⟩
    have hw' := hw.symm
    subst hw'
    clear hw
    rw [hqL]
    by_cases hq0 : q.length = 0
    · have hqn : q = [] := List.eq_nil_of_length_eq_zero hq0
      have hfin : cutL p = ls := by rw [hcut.out, hqn, cutL_none cutOne_nil, List.append_nil]
      have d1 : decide ((0 : Int) < (q.length : Int)) = false := decide_eq_false (by omega)
      have d2 : decide (0 < q.length) = false := decide_eq_false (by omega)
      have HFIN := Lib.hid hfin
      clear hqL hqn hfin
      go_wp2_with fail
      go_ret2
      exact ⟨_, by rw [HFIN.out, ← hml.out]; rfl, by rw [HFIN.out]; exact hout.out.base HBS.out, hbl.out⟩
    · have d1 : decide ((0 : Int) < (q.length : Int)) = true := decide_eq_true (by omega)
      have d2 : decide (0 < q.length) = true := decide_eq_true (by omega)
      clear hqL
      go_wp2_with fail
      refine (trtext_any B rv (some q) 65536 wr (by omega) hrd.out).mono ?_
      rintro e w3 ⟨rfl, hr3, ht3⟩
      have hout3 : RecsAt B w3 u4 ls := hout.out.only ht3 fun k hk => by
        obtain ⟨cs, hcs⟩ := rd_block hrd.out hk
        refine ⟨fun cs' fr e => ?_, fun e => ?_⟩
        · rw [hcs] at e
          cases e
        · obtain ⟨us, -, h2, -⟩ := hout.out
          exact own_ne h2 hcs (by decide) e
      have HBW3 : Hid (B ≤ w3.heap.size) := Lib.hid (Nat.le_trans hbw.out ht3.size)
      have hbl3 : Below w.heap.size w w3 := hbl.out.trans (ht3.below w.heap.size hbl.out.size fun k hk e => by have := HRN.out k e; omega)
      rcases text_cut (q := q) with ⟨s, r, h1, h2⟩ | ⟨h1, h2⟩
      · rw [h2] at hr3 ⊢
        simp only at hr3 ⊢
        obtain ⟨g1, g2⟩ := cutOne_some h1
        have hlen := congrArg List.length g1
        rw [List.length_append] at hlen
        have hpos := layOne_pos s
        have hcut2 : cutL p = (ls ++ [s]) ++ cutL r := by rw [hcut.out, cutL_some h1]; simp
        have hpq2 : p = layAll (ls ++ [s]) ++ r := by rw [layAll_app, layAll_one, List.append_assoc, ← g1]; exact hpq.out
        have hm2 : m + (layOne s).length = (layAll (ls ++ [s])).length := by rw [layAll_app, layAll_one, List.length_append, ← hml.out]
        have HC2 := Lib.hid hcut2
        have HP2 := Lib.hid hpq2
        have HM2 := Lib.hid hm2
        have HOUT := Lib.hid hout3
        have HRD3 := Lib.hid hr3
        have HBL3 := Lib.hid hbl3
        obtain ⟨lo, hlo⟩ : ∃ lo, lo = (layOne s).length := ⟨_, rfl⟩
        rw [← hlo] at hlen hpos HM2
        have hlen2 : lo + r.length = q.length := hlen.symm
        have hs63 : s.length ≤ 9223372036854775807 := by omega
        clear hlen
        have hrL : (Rd.left (some r) : Int) = (r.length : Int) := rfl
        have HLL := Lib.hid (left_any B rv (some r) w3 HRD3.out)
        rw [hrL] at HLL
        clear hcut2 hpq2 hm2 hout3 hr3 hbl3 ht3 h1 h2 g1 hlo hcut hpq hout hrd hbl d1 d2 hrL
        have hs65 := g2
        clear g2
        go_upto_region 6 with fail
        go_cut [22] from 15 to 22 (fun t w' => t = .bool false ∧ w' = w3)
        case first =>
          go_wp2_with fail
          refine HLL.out.mono ?_
          rintro e w4 ⟨rfl, hw⟩
          have hw' := hw.symm
          subst hw'
          clear hw
          by_cases hr0 : r.length = 0
          · have hrn : r = [] := List.eq_nil_of_length_eq_zero hr0
            have e1 : ((r.length : Int) == 0) = true := by rw [hr0]; rfl
            have e2 : decide ((r.length : Int) = 0) = true := decide_eq_true (by omega)
            have HDN := Lib.hid (done_any B rv (some r) w3 HRD3.out)
            rw [hrn, if_pos rfl] at HDN
            clear hrn hr0
            go_wp2_with fail
            refine HDN.out.mono ?_
            rintro e w4 ⟨rfl, hw⟩
            have hw' := hw.symm
            subst hw'
            clear hw
            go_wp2_with fail
            go_meet
            case rel => exact ⟨rfl, rfl⟩
          · have e1 : ((r.length : Int) == 0) = false := beq_false_of_ne (by omega)
            have e2 : decide ((r.length : Int) = 0) = false := decide_eq_false (by omega)
            clear hr0
            go_wp2_with fail
            go_meet
            case rel => exact ⟨rfl, rfl⟩
        case rest =>
          obtain ⟨rfl, hwc⟩ := hcut
          have hwc' := hwc.symm
          subst hwc'
          clear hwc
          have hsz3 := HBL3.out.size
          have hszB := HBW3.out
          go_wp2_with first
            | (with_reducible refine wpList_textRec rfl 9 23 _ rfl (strOf s) rfl Tryd.underlying9 Tryd.underlying23 Tryd.underlying5 (by unfold maxLen; rw [strOf_size]; omega) ?_; intro v4 w4 hrc4 hB4; have HRC4 := Lib.hid (Rec8.low hrc4 hszB); have HB4 := Lib.hid (HBL3.out.trans (hB4.mono hsz3)); have HO4 := Lib.hid (HOUT.out.below hB4); have HRD4 := Lib.hid (rd_keep HRD3.out hB4); obtain ⟨a4, n4, c4, rfl⟩ := Rec8.isSlice hrc4; have HBW4 := Lib.hid (Nat.le_trans hszB hB4.size); clear hrc4 hB4)
            | (at_builtin; refine wpList_appRec rfl _ _ rfl B _ ls rfl HO4.out _ s HRC4.out _ rfl rfl (by omega) (by exact HBW4.out) ?_; intro v5 w5 ho5 hb5)
          have HB5 := Lib.hid (HB4.out.trans (hb5.mono HBS.out))
          have HRD5 := Lib.hid (rd_low HRD4.out hb5)
          have HBW5 := Lib.hid (Nat.le_trans HBW4.out hb5.size)
          have HO5 := Lib.hid ho5
          have HLL5 := Lib.hid (left_any B rv (some r) w5 HRD5.out)
          have hrL : (Rd.left (some r) : Int) = (r.length : Int) := rfl
          rw [hrL] at HLL5
          clear hb5 ho5 HB4 HO4 HRC4 HRD4 HBW4 HOUT HBL3 HBW3 HLL hsz3 hszB hrL
          have hsub : wrap64 ((L : Int) - (r.length : Int)) = ((m + lo : Nat) : Int) := by unfold wrap64; omega
          have hL2 : (L : Int) - (r.length : Int) = ((m + lo : Nat) : Int) := by omega
          go_wp2_with fail
          refine HLL5.out.mono ?_
          rintro e w6 ⟨rfl, hw⟩
          have hw' := hw.symm
          subst hw'
          clear hw
          go_wp2_with fail
          go_roundw
          case rel => exact ⟨ls ++ [s], r, m + lo, by go_num, by omega, HM2, HC2, HP2, by rw [List.length_append]; show ls.length + 1 ≤ m + lo; omega, HO5, HRD5, HB5, HBW5⟩
          case measure => simp [intOf]; omega
      · rw [h2] at hr3 ⊢
        simp only at hr3 ⊢
        have hfin : cutL p = ls := by rw [hcut.out, cutL_none h1, List.append_nil]
        have HFIN := Lib.hid hfin
        have HOUT := Lib.hid hout3
        have HBL3 := Lib.hid hbl3
        have HLL := Lib.hid (left_any B rv none w3 hr3)
        have HDN := Lib.hid (done_any B rv none w3 hr3)
        have HML := hml
        have hn0 : (Rd.left none : Int) = 0 := rfl
        rw [hn0] at HLL
        rw [if_neg (by simp)] at HDN
        clear hout3 hr3 hbl3 ht3 h1 h2 hcut hpq hout hrd hbl d1 d2 hn0 hfin HBW3 hbw
        go_wp2_with fail
        refine HLL.out.mono ?_
        rintro e w4 ⟨rfl, hw⟩
        have hw' := hw.symm
        subst hw'
        clear hw
        go_wp2_with fail
        refine HDN.out.mono ?_
        rintro e w4 ⟨rfl, hw⟩
        have hw' := hw.symm
        subst hw'
        clear hw
        go_wp2_with fail
        go_ret2
        exact ⟨_, by rw [HFIN.out, ← HML.out]; rfl, by rw [HFIN.out]; exact HOUT.out.base HBS.out, HBL3.out⟩
end Go.Proofs.YtacfkhnajdneeaaDoor
/- Walks: the document's Num, Zig, Zag. -/
namespace Go.Proofs.YtacfkhnajdneeaaDoor
open Go.RowKit

set_option maxRecDepth 10000 in
set_option maxHeartbeats 800000 in
theorem refnum_any (n : Nat) : ∀ w : World, n < 18446744073709551616 →
    Calls Tryd.prog 51 #[.int .u64 n] w fun e w' => ∃ v', e = .returned v' ∧ Own8 5 w.heap.size w' v' (Vi.varint n) ∧ Below w.heap.size w w' := by
  induction n using Nat.strongRecOn with
  | _ n ih =>
    intro w hn
    by_cases h : n < 128
    · have hl := Vi.varint_small h
      have h8 := ofNat_toNat (show n < 256 by omega)
      have ho := own8_lit 5 w #[.int .u8 n] [UInt8.ofNat n] 1 (by simp [B8, h8]) rfl (by simp [maxLen])
      have HO := Lib.hid ho
      clear ih ho
      go_enter Tryd.func51, Tryd.ntmps51
      go_wp2
      go_ret
      exact ⟨_, rfl, hl ▸ HO.out, bal (bre w) _⟩
    · have hl := Vi.varint_step (by omega) hn
      have h8 := ofNat_toNat (show n % 128 + 128 < 256 by omega)
      have e1 : ((n / 128 : Nat) : Int) = (n : Int) / 128 := by omega
      have e2 : ((n % 128 + 128 : Nat) : Int) = (n : Int) % 128 + 128 := by omega
      have ih := ih (n / 128) (by omega) (w.alloc (.cells #[.int .u8 ((n : Int) % 128 + 128)] 5)) (by omega)
      rw [e1] at ih
      have ho := own8_lit 5 w #[.int .u8 ((n : Int) % 128 + 128)] [UInt8.ofNat (n % 128 + 128)] 1 (by show [Value.int .u8 _] = [Value.int .u8 _]; rw [h8, e2]) rfl (by simp [maxLen])
      have HO := Lib.hid ho
      have HL := Lib.hid hl
      have HI := Lib.hid ih
      have hlen := (Vi.varint_length (n / 128)).2
      clear ho hl ih h8
      go_enter Tryd.func51, Tryd.ntmps51
      go_wp2_with fail
      refine HI.out.mono ?_
      rintro e w2 ⟨v2, rfl, hown2, hb2⟩
      obtain ⟨a2, n2, c2, rfl⟩ := hown2.isSlice
      have hb2' := btr (bal (bre w) (.cells #[.int .u8 ((n : Int) % 128 + 128)] 5)) hb2
      have hr := rows_lit2 w2 _ _ _ _ 23 w2.heap.size rfl (HO.out.bytes.below hb2) hown2.bytes
      have hbig : [[UInt8.ofNat (n % 128 + 128)], Vi.varint (n / 128)].flatten.length ≤ 140737488355328 := by simp; omega
      have HR := Lib.hid hr
      clear hr hown2 hb2
      go_wp2_with fail
      refine (join_any _ _ _ HR.out hbig).mono ?_
      rintro e w3 ⟨v3, rfl, hown3, hb3⟩
      go_wp2
      go_ret
      refine ⟨_, rfl, ?_, btr hb2' (btr (bal (bre w2) _) hb3)⟩
      rw [HL.out]
      have h4 : [[UInt8.ofNat (n % 128 + 128)], Vi.varint (n / 128)].flatten = UInt8.ofNat (n % 128 + 128) :: Vi.varint (n / 128) := by simp
      rw [← h4]
      exact ownsRow_base hown3 (Nat.le_trans hb2'.size (bal (bre w2) _).size)

set_option maxRecDepth 10000 in
theorem zag_any (n : Nat) (w : World) (hn : n < 18446744073709551616) :
    Calls Tryd.prog 72 #[.int .u64 n] w fun e w' => e = .returned (.int .i64 (zag n)) ∧ w' = w := by
  unfold zag
  by_cases h : n % 2 = 1
  · rw [if_pos h]
    go_enter Tryd.func72, Tryd.ntmps72
    go_wp2
    go_ret
    exact ⟨by go_num, rfl⟩
  · rw [if_neg h]
    go_enter Tryd.func72, Tryd.ntmps72
    go_wp2
    go_ret
    exact ⟨by go_num, rfl⟩
end Go.Proofs.YtacfkhnajdneeaaDoor
/- Walk: the document's Take of a record. -/
namespace Go.Proofs.YtacfkhnajdneeaaDoor
open Go.RowKit

theorem row4 {w : World} {g T : Nat} {a b c d : Value} (h : w.heap[g]? = some (.cells #[a, b, c, d] T (0, 0))) :
    w.cell? ⟨g, 0, none⟩ = some a ∧ w.cell? ⟨g, 1, none⟩ = some b ∧ w.cell? ⟨g, 2, none⟩ = some c ∧ w.cell? ⟨g, 3, none⟩ = some d ∧ ∀ o, w.frozen? ⟨g, o, none⟩ = false :=
  ⟨cell_of_row w g 0 _ _ _ h, cell_of_row w g 1 _ _ _ h, cell_of_row w g 2 _ _ _ h, cell_of_row w g 3 _ _ _ h, fun o => frozen_of_row w g o _ _ h⟩
theorem bset {B : Nat} {a b : World} (h : Below B a b) (g o : Nat) (u : Value) (hg : B ≤ g) : Below B a (b.setCell ⟨g, o, none⟩ u) := h.setCell hg u
theorem two_new (w : World) (x y z : Obj) : ((((w.alloc x).alloc y).alloc z).heap[w.heap.size]? = some x) :=
  ((bal (bre _) z).block w.heap.size (by simp; omega)).trans (((bal (bre _) y).block w.heap.size (by simp)).trans (heap_alloc_new w x))
theorem three_new (w : World) (x y z : Obj) : ((((w.alloc x).alloc y).alloc z).heap[w.heap.size + 1]? = some y) ∧ ((((w.alloc x).alloc y).alloc z).heap[w.heap.size + 1 + 1]? = some z) := by
  constructor
  · exact ((bal (bre _) z).block (w.heap.size + 1) (by simp)).trans (by have h := heap_alloc_new (w.alloc x) y; simpa using h)
  · have h := heap_alloc_new ((w.alloc x).alloc y) z; simpa using h

def takeT (kind most : Nat) (o : Option (List UInt8)) : Value := .agg #[.int .u8 kind, .int .u64 0, .string (strOf (Rd.text most o).1), .int .u64 most]
def restT (most : Nat) (o : Option (List UInt8)) : Option (List UInt8) := (Rd.text most o).2
def SaysT (v : Value) (kind most : Nat) (p : List UInt8) (e : Ending) : Prop :=
  ∃ u, e = .returned (.tuple #[takeT kind most (some p), u, .bool (restT most (some p)).isSome]) ∧ ∀ W, Bytes W v p → Bytes W u ((restT most (some p)).getD [])
theorem SaysT.of {v : Value} {kind most : Nat} {p q : List UInt8} {x : Value} {b : Bool} {u : Value} (h1 : takeT kind most (some p) = x) (h2 : restT most (some p) = if b then some q else none) (h3 : b = false → q = []) (h4 : ∀ W, Bytes W v p → Bytes W u q) :
    SaysT v kind most p (.returned (.tuple #[x, u, .bool b])) := by
  refine ⟨u, ?_, ?_⟩
  · rw [h1, h2]; cases b <;> rfl
  · rw [h2]; cases b
    · rw [h3 rfl] at h4; exact h4
    · exact h4
theorem rtT_fin {v : Value} {kind most : Nat} {p q : List UInt8} {x u : Value} {b : Bool} {w w2 w' : World} {g : Nat} (hg : w.heap.size = g) (hw : Below g w w2) (hb : Below g w2 w') (h1 : takeT kind most (some p) = x) (h2 : restT most (some p) = if b then some q else none)
    (h3 : b = false → q = []) (h4 : ∀ W, Bytes W v p → Bytes W u q) : SaysT v kind most p (.returned (.tuple #[x, u, .bool b])) ∧ Below w.heap.size w w' := by
  subst hg
  exact ⟨SaysT.of h1 h2 h3 h4, hw.trans hb⟩
theorem run_suffix_all {P : Program} {w : World} {a : Option Addr} {n c : Nat} {l : List UInt8} (h : Bytes w (.slice a n c) l) (k t e : Nat) (hk : k ≤ l.length)
    (T : RowTy P t e 1 1) : ∃ A N C, (∀ w', (Instr.slice t (.slice a n c) (some (.int .i64 k)) none none).run P w' = .ok (.slice A N C) w') ∧ (∀ W, Bytes W (.slice a n c) l → Bytes W (.slice A N C) (l.drop k)) ∧ N = l.length - k := by
  obtain ⟨a', c', e1, h1, h2, _⟩ := h
  cases e1
  refine ⟨_, _, _, fun w' => ?_, fun W hW => Bytes.suffix hW k hk, rfl⟩
  obtain ⟨i, z, hi, hz, hsz, hby, hzs⟩ := T.ex
  have hb : (sizeOf e).run P w' = .ok 1 w' := by simp [sizeOf, typeInfo, hi, hsz]
  have hkn : (k : Int) ≤ (l.length : Nat) := by omega
  simp [Instr.slice, run_underlying T.ht, Instr.sliceBounds, run_sliceBound, hb, hkn]
theorem run_mid {P : Program} {w : World} {a : Option Addr} {n c : Nat} {l : List UInt8} (h : Bytes w (.slice a n c) l) (k j t e : Nat) (hk : k ≤ j) (hj : j ≤ l.length)
    (T : RowTy P t e 1 1) : ∃ A C, (∀ w', (Instr.slice t (.slice a n c) (some (.int .i64 k)) (some (.int .i64 j)) none).run P w' = .ok (.slice A (j - k) C) w') ∧ Bytes w (.slice A (j - k) C) ((l.take j).drop k) := by
  have hf := SliceOf.firsts h j hj
  have hlt : (l.take j).length = j := by rw [List.length_take]; omega
  have hs := Bytes.suffix hf k (by omega)
  obtain ⟨a', c', e1, h1, h2, _⟩ := h
  cases e1
  refine ⟨_, _, fun w' => ?_, hs⟩
  obtain ⟨i, z, hi, hz, hsz, hby, hzs⟩ := T.ex
  have hb : (sizeOf e).run P w' = .ok 1 w' := by simp [sizeOf, typeInfo, hi, hsz]
  have hkn : (k : Int) ≤ (j : Nat) := by omega
  have hjn : (j : Int) ≤ (c : Nat) := by omega
  simp [Instr.slice, run_underlying T.ht, Instr.sliceBounds, run_sliceBound, hb, hkn, hjn]
set_option maxRecDepth 10000 in
set_option maxHeartbeats 1600000 in
theorem rtakeT_any (v : Value) (p : List UInt8) (kind n most : Nat) (s : ByteArray) (hk : kind < 256) (w : World) (hv : Bytes w v p) (h : kind % 5 = 2) :
    Calls Tryd.prog 50 #[v, .agg #[.int .u8 kind, .int .u64 n, .string s, .int .u64 most]] w fun e w' => SaysT v kind most p e ∧ Below w.heap.size w w' := by
  have hT : ∀ o, takeT kind most o = .agg #[.int .u8 kind, .int .u64 0, .string (strOf (Rd.text most o).1), .int .u64 most] := fun o => rfl
  have hR : ∀ o, restT most o = (Rd.text most o).2 := fun o => rfl
  have HT := Lib.hid hT
  have HR := Lib.hid hR
  clear hT hR
  have HV := Lib.hid hv
  obtain ⟨a, c, rfl, hmax, hcap, _⟩ := hv
  have hmax2 : p.length ≤ 9223372036854775807 := by unfold maxLen at hmax; omega
  go_enter Tryd.func50, Tryd.ntmps50
  go_wp2_with fail
  have hG0 := two_new w (.cells #[.int .u8 kind, .int .u64 n, .string s, .int .u64 most] 89) (.cells #[.int .u8 0, .int .u64 0, .string ⟨#[]⟩, .int .u64 0] 89) (.cells #[.int .u8 kind, .int .u64 0, .string ⟨#[]⟩, .int .u64 most] 89)
  obtain ⟨hG1, hG2⟩ := three_new w (.cells #[.int .u8 kind, .int .u64 n, .string s, .int .u64 most] 89) (.cells #[.int .u8 0, .int .u64 0, .string ⟨#[]⟩, .int .u64 0] 89) (.cells #[.int .u8 kind, .int .u64 0, .string ⟨#[]⟩, .int .u64 most] 89)
  have hbW := bal (bal (bal (bre w) (.cells #[.int .u8 kind, .int .u64 n, .string s, .int .u64 most] 89)) (.cells #[.int .u8 0, .int .u64 0, .string ⟨#[]⟩, .int .u64 0] 89)) (.cells #[.int .u8 kind, .int .u64 0, .string ⟨#[]⟩, .int .u64 most] 89)
  generalize (((w.alloc (.cells #[.int .u8 kind, .int .u64 n, .string s, .int .u64 most] 89)).alloc (.cells #[.int .u8 0, .int .u64 0, .string ⟨#[]⟩, .int .u64 0] 89)).alloc (.cells #[.int .u8 kind, .int .u64 0, .string ⟨#[]⟩, .int .u64 most] 89)) = W at *
  refine (number_any _ p W (HV.out.below hbW)).mono ?_
  rintro e w1 ⟨rfl, rfl⟩
  obtain ⟨b0, b1, b2, b3, er⟩ := row4 hG0
  obtain ⟨c0, c1, c2, c3, fr⟩ := row4 hG1
  obtain ⟨d0, d1, d2, d3, gr⟩ := row4 hG2
  have HW := Lib.hid hbW
  clear hG0 hG1 hG2 hbW
  cases hdec : Rd.dec 0 0 p with
  | none =>
    rw [numOf_none hdec]
    have e1 := HT.out (some p)
    have e2 := HR.out (some p)
    rw [show Rd.text most (some p) = ([], none) by unfold Rd.text; rw [Rd.num_none (by simpa using hdec)]] at e1 e2
    rw [show strOf (([], none) : List UInt8 × Option (List UInt8)).1 = ⟨#[]⟩ by rfl] at e1
    have E1 := Lib.hid e1
    have E2 := Lib.hid e2
    clear e1 e2 hdec
    generalize hg : w.heap.size = g at *
    have HG := Lib.hid hg
    clear hg
    go_wp2_with fail
    all_goals
      refine bodyPost_ret (v := .tuple #[.agg #[.int .u8 kind, .int .u64 0, .string ⟨#[]⟩, .int .u64 most], .slice none 0 0, .bool false]) (by simp [results, Tryd.results50, go_sem, c0, c1, c2, c3]) rfl ?_
      exact rtT_fin (b := false) (q := []) HG.out HW.out (by repeat (first | exact Below.refl _ _ | refine Below.drew ?_ | refine bset ?_ _ _ _ (by omega))) E1.out E2.out (fun _ => rfl) (fun _ _ => (Own8.nil 5 0 _).bytes)
  | some q =>
    obtain ⟨m, r⟩ := q
    obtain ⟨hp, hm64, hn1, hn2, hpos⟩ := dec_front hdec
    have hdrop : p.drop (Vi.varint m).length = r := by rw [hp]; simp
    have hle2 : (Vi.varint m).length ≤ p.length := by rw [hp]; simp
    have hrl : p.length - (Vi.varint m).length = r.length := by rw [hp]; simp
    have e1 := HT.out (some p)
    have e2 := HR.out (some p)
    have hKr : p.length = (Vi.varint m).length + r.length := by rw [hp]; simp
    by_cases hmm : m ≤ most
    · have hmd : decide (most < m) = false := by simp; omega
      by_cases hml : m ≤ r.length
      · rw [show Rd.text most (some p) = (r.take m, some (r.drop m)) by unfold Rd.text; rw [num_of_dec hdec, if_pos hmm]; simp only [if_pos hml]] at e1 e2
        have hm5 : (m : Int) ≤ (p.length : Int) - (Vi.varint m).length := by omega
        have hm7 : decide ((p.length : Int) - (Vi.varint m).length < m) = false := by simp; omega
        have hm6 : (((Vi.varint m).length : Int) + m) = (((Vi.varint m).length + m : Nat) : Int) := by omega
        have hk1 : (Vi.varint m).length + m ≤ p.length := by omega
        obtain ⟨A1, C1, hrun1, hby1⟩ := run_mid (P := Tryd.prog) (HV.out) (Vi.varint m).length ((Vi.varint m).length + m) 23 5 (by omega) hk1 row8
        rw [Nat.add_sub_cancel_left] at hrun1 hby1
        have hmid : (p.take ((Vi.varint m).length + m)).drop (Vi.varint m).length = r.take m := by rw [hp]; simp [List.take_append]
        rw [hmid] at hby1
        have HY1 := Lib.hid hby1
        obtain ⟨A, N, C, hrun, hby, hN⟩ := run_suffix_all (P := Tryd.prog) HV.out ((Vi.varint m).length + m) 23 5 hk1 row8
        rw [show p.drop ((Vi.varint m).length + m) = r.drop m by rw [← List.drop_drop, hdrop]] at hby
        have hs : ∀ w', Below w.heap.size w w' → (convert 23 9 (.slice A1 m C1)).run Tryd.prog w' = .ok (.string (strOf (r.take m))) w' := fun w' hb => run_str (P := Tryd.prog) w' 23 9 5 _ _ (HY1.out.below hb) Tryd.underlying23 Tryd.underlying5 Tryd.underlying9
        have hs2 := hs _ HW.out
        have HY := Lib.hid hby
        have E1 := Lib.hid e1
        have E2 := Lib.hid e2
        rw [← hm6] at hrun1 hrun
        clear hmid e1 e2 hdec hp hdrop hby hN hrl hs hby1 hKr hm6
        rw [hn1, hn2]
        clear hn1 hn2
        generalize strOf (r.take m) = T at *
        generalize (Vi.varint m).length = K at *
        generalize hg : w.heap.size = g at *
        have HG := Lib.hid hg
        clear hg
        go_wp2_with fail
        go_region
        all_goals
          go_wp2_with fail
          refine bodyPost_ret (v := .tuple #[.agg #[.int .u8 kind, .int .u64 0, .string T, .int .u64 most], .slice A N C, .bool true]) (by simp [results, Tryd.results50, go_sem, c0, c1, c2, c3]) rfl ?_
          exact rtT_fin (b := true) (q := r.drop m) HG.out HW.out (by repeat (first | exact Below.refl _ _ | refine Below.drew ?_ | refine bset ?_ _ _ _ (by omega))) E1.out E2.out (fun h => by cases h) HY.out
      · have hm5 : (p.length : Int) - (Vi.varint m).length < m := by omega
        rw [show Rd.text most (some p) = ([], none) by unfold Rd.text; rw [num_of_dec hdec, if_pos hmm]; simp only [if_neg hml]] at e1 e2
        rw [show strOf (([], none) : List UInt8 × Option (List UInt8)).1 = ⟨#[]⟩ by rfl] at e1
        obtain ⟨A, N, C, hrun, hby, hN⟩ := run_suffix_all (P := Tryd.prog) HV.out (Vi.varint m).length 23 5 hle2 row8
        rw [hdrop] at hby
        have HY := Lib.hid hby
        have E1 := Lib.hid e1
        have E2 := Lib.hid e2
        clear e1 e2 hdec hp hdrop hby hN hrl hKr
        rw [hn1, hn2]
        clear hn1 hn2
        generalize (Vi.varint m).length = K at *
        generalize hg : w.heap.size = g at *
        have HG := Lib.hid hg
        clear hg
        go_wp2_with fail
        all_goals
          refine bodyPost_ret (v := .tuple #[.agg #[.int .u8 kind, .int .u64 0, .string ⟨#[]⟩, .int .u64 most], .slice none 0 0, .bool false]) (by simp [results, Tryd.results50, go_sem, c0, c1, c2, c3]) rfl ?_
          exact rtT_fin (b := false) (q := []) HG.out HW.out (by repeat (first | exact Below.refl _ _ | refine Below.drew ?_ | refine bset ?_ _ _ _ (by omega))) E1.out E2.out (fun _ => rfl) (fun _ _ => (Own8.nil 5 0 _).bytes)
    · have hmd : decide (most < m) = true := by simp; omega
      rw [show Rd.text most (some p) = ([], none) by unfold Rd.text; rw [num_of_dec hdec, if_neg hmm]] at e1 e2
      rw [show strOf (([], none) : List UInt8 × Option (List UInt8)).1 = ⟨#[]⟩ by rfl] at e1
      obtain ⟨A, N, C, hrun, hby, hN⟩ := run_suffix_all (P := Tryd.prog) HV.out (Vi.varint m).length 23 5 hle2 row8
      rw [hdrop] at hby
      have HY := Lib.hid hby
      have E1 := Lib.hid e1
      have E2 := Lib.hid e2
      clear e1 e2 hdec hp hdrop hby hN hrl hKr
      rw [hn1, hn2]
      clear hn1 hn2
      generalize (Vi.varint m).length = K at *
      generalize hg : w.heap.size = g at *
      have HG := Lib.hid hg
      clear hg
      go_wp2_with fail
      all_goals
        refine bodyPost_ret (v := .tuple #[.agg #[.int .u8 kind, .int .u64 0, .string ⟨#[]⟩, .int .u64 most], .slice none 0 0, .bool false]) (by simp [results, Tryd.results50, go_sem, c0, c1, c2, c3]) rfl ?_
        exact rtT_fin (b := false) (q := []) HG.out HW.out (by repeat (first | exact Below.refl _ _ | refine Below.drew ?_ | refine bset ?_ _ _ _ (by omega))) E1.out E2.out (fun _ => rfl) (fun _ _ => (Own8.nil 5 0 _).bytes)
end Go.Proofs.YtacfkhnajdneeaaDoor
/- Walks of the reference: records in a row; bytes are cut into records. -/
namespace Go.Proofs.YtacfkhnajdneeaaDoor
open Go.RowKit

set_option maxRecDepth 20000 in
set_option maxHeartbeats 1600000 in
theorem rflay_any (v : Value) (ls : List (List UInt8)) (w : World) (hv : Rows8 w v ls) (hx : ∀ x ∈ ls, x.length ≤ 1000000) (hbig : (layAll ls).length ≤ 100000000) :
    Calls Tryd.prog 16 #[v] w fun e w' => ∃ v', e = .returned v' ∧ Own8 5 w.heap.size w' v' (layAll ls) ∧ Below w.heap.size w w' := by
  obtain ⟨a, c, rfl, hm, hc, _, hrow⟩ := hv
  unfold maxLen at hm
  have HR := Lib.hid hrow
  have HX := Lib.hid hx
  have HBIG := Lib.hid hbig
  obtain ⟨L, hL⟩ : ∃ L, L = ls.length := ⟨_, rfl⟩
  have HL := Lib.hid hL
  rw [← hL] at hm hc ⊢
  clear hrow hx hbig hL
  go_enter Tryd.func16, Tryd.ntmps16
  go_wp2_with fail
  go_loopw [3, 5, 8] (fun out _ i wr => ∃ k : Nat, k ≤ L ∧ i = .int .i64 k ∧ Hid (Own8 5 w.heap.size wr out (layAll (ls.take k))) ∧ Hid (Below w.heap.size w wr)) (fun _ _ i _ => L - (intOf i).toNat)
  case atStart => exact ⟨0, by omega, rfl, Lib.hid (Own8.nil _ _ _), Lib.hid (bre w)⟩
  case round =>
    obtain ⟨k, hk, rfl, hown, hb⟩ := hrel
    by_cases hlt : k < L
    · have hkl : k < ls.length := by rw [← HL.out]; exact hlt
      rcases HR.out with h0 | ⟨g, o, rfl, hcell⟩
      · rw [h0] at hkl; simp at hkl
      · obtain ⟨u, hu, hbu⟩ := hcell k _ (List.getElem?_eq_getElem hkl)
        have hg : g < w.heap.size := block_lt_of_cell hu
        have hu' : wr.cell? ⟨g, o + k, none⟩ = some u := (hb.out.cell hg).trans hu
        have hbu' : Bytes w u ls[k] := hbu
        have hxl := HX.out _ (List.getElem_mem hkl)
        have hts := layAll_snoc ls k hkl
        have HTS := Lib.hid hts
        have hlen : (layAll (ls.take k)).length + (layOne ls[k]).length ≤ 100000000 := by
          have h1 := layAll_take_len ls (k + 1)
          have h2 := HBIG.out
          rw [hts, List.length_append] at h1
          omega
        obtain ⟨l, hl⟩ : ∃ l, l = layAll (ls.take k) := ⟨_, rfl⟩
        rw [← hl] at hown hlen
        have HLL := Lib.hid hl
        clear hcell hu hbu hts hl
        generalize ls[k] = x at *
        have HU := Lib.hid hbu'
        obtain ⟨au, cu, rfl, hm5, -, -, -⟩ := id hbu'
        obtain ⟨X, hX⟩ : ∃ X, X = x.length := ⟨_, rfl⟩
        have HXL := Lib.hid hX
        have hvx : ∀ W, Bytes W (.slice au x.length cu) x → Bytes W (.slice au X cu) x := fun W h => by rw [hX]; exact h
        have HVX := Lib.hid hvx
        rw [← hX] at hu' hxl
        have hwx : IntKind.u64.wrap (X : Int) = (X : Int) := by simp [IntKind.wrap, IntKind.signed, IntKind.bits]; omega
        have d1 : decide ((k : Int) < (L : Int)) = true := decide_eq_true (by omega)
        have d1n : decide (k < L) = true := decide_eq_true hlt
        clear hbu' hX hvx hm5
        go_wp2_with fail
        refine (refnum_any X wr (by omega)).mono ?_
        rintro e w2 ⟨v2, rfl, ho2, hb2⟩
        have HB2 := Lib.hid (btr hb.out hb2)
        have HO2 := Lib.hid (Own8.kept hown.out (Nat.le_refl _) hb2)
        have HV2 := Lib.hid ho2.bytes
        obtain ⟨a2, n2, c2, rfl⟩ := Own8.isSlice ho2
        have hl1 : layOne x = Vi.varint X ++ x := by rw [HXL.out]; rfl
        have hl2 : l.length + ((Vi.varint X).length + x.length) ≤ 100000000 := by rw [hl1, List.length_append] at hlen; exact hlen
        have hsz := HB2.out.size
        have HL1 := Lib.hid hl1
        clear ho2 hb2 hown hb hwx hl1 hlen
        go_wp2_with first
          | (at_builtin; refine wpList_app8 rfl _ _ 23 5 row8 rfl w.heap.size _ (l ++ Vi.varint X) rfl HO3.out _ x rfl HU3.out (by rw [List.length_append]; omega) hsz3 ?_; intro v4 w4 h4 _ hb4)
          | (at_builtin; refine wpList_app8 rfl _ _ 23 5 row8 rfl w.heap.size _ l rfl HO2.out _ (Vi.varint X) rfl HV2.out (by omega) hsz ?_; intro v3 w3 h3 hg3 hb3; have HO3 := Lib.hid h3; have HB3 := Lib.hid (HB2.out.trans hb3); have HU3 := Lib.hid (HVX.out _ (HU.out.below HB3.out)); have hsz3 := HB3.out.size; clear h3 hb3 hg3)
        have HB4 := Lib.hid (HB3.out.trans hb4)
        have HO4 : Hid (Own8 5 w.heap.size w4 v4 (layAll (ls.take (k + 1)))) := Lib.hid (by
          rw [HTS.out, ← HLL.out, HL1.out, ← List.append_assoc]
          exact h4)
        clear h4 hb4 HB2 HO2 HB3 HO3 HU3 hsz hsz3 HV2 HL1 hl2
        go_wp2_with fail
        go_roundw
        case rel => exact ⟨k + 1, by omega, by go_num, HO4, HB4⟩
        case measure => simp [intOf]; omega
    · have e : k = L := by omega
      have d1 : decide ((k : Int) < (L : Int)) = false := decide_eq_false (by omega)
      have d1n : decide (k < L) = false := decide_eq_false hlt
      have hl : ls.take k = ls := List.take_of_length_le (by rw [e, ← HL.out]; exact Nat.le_refl _)
      rw [hl] at hown
      clear hl hlt hk HR HX e
      go_wp2_with fail
      go_ret
      exact ⟨_, rfl, hown.out, hb.out⟩

set_option maxRecDepth 20000 in
set_option maxHeartbeats 1600000 in
theorem rfcut_any (v : Value) (p : List UInt8) (w : World) (hv : Bytes w v p) (hp : p.length ≤ 100000000) :
    Calls Tryd.prog 14 #[v] w fun e w' => ∃ v', e = .returned (.tuple #[v', .int .i64 (layAll (cutL p)).length]) ∧ RecsAt w.heap.size w' v' (cutL p) ∧ Below w.heap.size w w' := by
  obtain ⟨a, c, rfl, hm, hc, -, -⟩ := id hv
  have HV := Lib.hid hv
  obtain ⟨L, hL⟩ : ∃ L, L = p.length := ⟨_, rfl⟩
  rw [← hL] at hm hc hp HV ⊢
  have HL := Lib.hid hL
  clear hv hL
  go_enter Tryd.func14, Tryd.ntmps14
  go_wp2_with fail
  go_loopw [4, 5, 6, 7, 8] (fun out at_ _ _ _ wr => ∃ (ls : List (List UInt8)) (q : List UInt8) (m : Nat), at_ = .int .i64 m ∧ m + q.length = L ∧ Hid (m = (layAll ls).length) ∧ Hid (cutL p = ls ++ cutL q) ∧ Hid (p = layAll ls ++ q) ∧ ls.length ≤ m ∧ Hid (RecsAt w.heap.size wr out ls) ∧ Hid (Below w.heap.size w wr)) (fun _ at_ _ _ _ _ => L - (intOf at_).toNat)
  case atStart => exact ⟨[], p, 0, rfl, by rw [HL.out]; omega, Lib.hid rfl, Lib.hid rfl, Lib.hid rfl, Nat.le_refl _, Lib.hid (RecsAt.nil _ _), Lib.hid (bre w)⟩
  case round =>
    obtain ⟨ls, q, m, rfl, hmq, hml, hcut, hpq, hlsm, hout, hb⟩ := hrel
    have hmp : m ≤ p.length := by rw [← HL.out]; omega
    have hmL : m ≤ L := by omega
    obtain ⟨A3, N3, C3, s3, y3, hN3⟩ := run_suffix (P := Tryd.prog) (HV.out.below hb.out) m 23 5 hmp row8
    have hdq : p.drop m = q := by rw [hpq.out, hml.out, List.drop_left]
    rw [hdq] at y3
    have HY := Lib.hid y3
    have hmL' := Lib.hid hmL
    clear y3 hdq hmp hN3 hmL hc hm
    go_wp2_with fail
    refine (rtakeT_any _ q 2 0 65536 ⟨#[]⟩ (by omega) wr HY.out rfl).mono ?_
    rintro e w3 ⟨⟨u3, rfl, hu3⟩, hb3⟩
    have HB3 := Lib.hid (btr hb.out hb3)
    have HO3 := Lib.hid (hout.out.below hb3)
    have HU3 := Lib.hid (hu3 w3 (HY.out.below hb3))
    clear hu3 hb3 hb hout s3
    rcases text_cut (q := q) with ⟨s, r, h1, h2⟩ | ⟨h1, h2⟩
    · obtain ⟨g1, g2⟩ := cutOne_some h1
      have hlen := congrArg List.length g1
      rw [List.length_append] at hlen
      have hpos := layOne_pos s
      have hcut2 : cutL p = (ls ++ [s]) ++ cutL r := by rw [hcut.out, cutL_some h1]; simp
      have hpq2 : p = layAll (ls ++ [s]) ++ r := by rw [layAll_app, layAll_one, List.append_assoc, ← g1]; exact hpq.out
      have hm2 : m + (layOne s).length = (layAll (ls ++ [s])).length := by rw [layAll_app, layAll_one, List.length_append, ← hml.out]
      have HC2 := Lib.hid hcut2
      have HP2 := Lib.hid hpq2
      have HM2 := Lib.hid hm2
      obtain ⟨lo, hlo⟩ : ∃ lo, lo = (layOne s).length := ⟨_, rfl⟩
      rw [← hlo] at hlen hpos HM2
      have hu4 : Bytes w3 u3 r := by
        have := HU3.out
        unfold restT at this
        rw [h2] at this
        exact this
      have hT : takeT 2 65536 (some q) = .agg #[.int .u8 2, .int .u64 0, .string (strOf s), .int .u64 65536] := by unfold takeT; rw [h2]; rfl
      have hR : (restT 65536 (some q)).isSome = true := by unfold restT; rw [h2]; rfl
      rw [hT, hR]
      have HU4 := Lib.hid hu4
      obtain ⟨a3, c3, rfl, hm3, hc3, -, -⟩ := id hu4
      obtain ⟨R, hR2⟩ : ∃ R, R = r.length := ⟨_, rfl⟩
      have HR2 := Lib.hid hR2
      rw [← hR2] at hlen hm3 hc3 ⊢
      clear hcut2 hpq2 hm2 hu4 h1 h2 g1 hlo hcut hpq HU3 HY hT hR hR2
      have hbF := bal (bre w3) (.cells #[.int .u8 2, .int .u64 0, .string (strOf s), .int .u64 65536] 89)
      have HBF := Lib.hid (btr HB3.out hbF)
      have HOF := Lib.hid (HO3.out.below hbF)
      have hszF := HBF.out.size
      have HG2 := Lib.hid g2
      have HLS := Lib.hid hlsm
      clear hbF HB3 HO3 g2 hlsm
      go_wp2_with first
        | (with_reducible refine wpList_textRec rfl 9 23 _ rfl (strOf s) rfl Tryd.underlying9 Tryd.underlying23 Tryd.underlying5 (by unfold maxLen; rw [strOf_size]; have := HG2.out; omega) ?_; intro v4 w4 hrc4 hB4; have HRC4 := Lib.hid (Rec8.low hrc4 hszF); have HB4 := Lib.hid (btr HBF.out hB4); have HO4 := Lib.hid (HOF.out.below hB4); obtain ⟨a4, n4, c4, rfl⟩ := Rec8.isSlice hrc4; have hsz4 := HB4.out.size; clear hrc4 hB4)
        | (at_builtin; refine wpList_appRec rfl _ _ rfl w.heap.size _ ls rfl HO4.out _ s HRC4.out _ rfl rfl (by have := HLS.out; omega) hsz4 ?_; intro v5 w5 ho5 hb5)
      have HB5 := Lib.hid (HB4.out.trans hb5)
      have HO5 := Lib.hid ho5
      have hsub : wrap64 ((L : Int) - (R : Int)) = ((m + lo : Nat) : Int) := by unfold wrap64; omega
      have hL2 : (L : Int) - (R : Int) = ((m + lo : Nat) : Int) := by omega
      clear ho5 hb5 HB4 HO4 HRC4 HOF HBF hszF hsz4
      go_wp2_with fail
      go_roundw
      case rel => exact ⟨ls ++ [s], r, m + lo, by go_num, by rw [← HR2.out]; omega, HM2, HC2, HP2, by rw [List.length_append]; have := HLS.out; show ls.length + 1 ≤ m + lo; omega, HO5, HB5⟩
      case measure => simp [intOf]; omega
    · have hfin : cutL p = ls := by rw [hcut.out, cutL_none h1, List.append_nil]
      have HFIN := Lib.hid hfin
      have hR : (restT 65536 (some q)).isSome = false := by unfold restT; rw [h2]; rfl
      have hT : takeT 2 65536 (some q) = .agg #[.int .u8 2, .int .u64 0, .string (strOf []), .int .u64 65536] := by unfold takeT; rw [h2]; rfl
      rw [hT, hR]
      obtain ⟨a3, c3, rfl, -, -, -, -⟩ := id HU3.out
      have HML := hml
      have hbF := bal (bre w3) (.cells #[.int .u8 2, .int .u64 0, .string (strOf []), .int .u64 65536] 89)
      have HBF := Lib.hid (btr HB3.out hbF)
      have HOF := Lib.hid (HO3.out.below hbF)
      clear hfin hR hT h1 h2 hcut hpq HU3 HY hbF HB3 HO3
      go_wp2_with fail
      go_ret2
      exact ⟨_, by rw [HFIN.out, ← HML.out]; rfl, by rw [HFIN.out]; exact HOF.out, HBF.out⟩
end Go.Proofs.YtacfkhnajdneeaaDoor
/- Walks of the reference: lists of records compared; one begins another one; records in a row. -/
namespace Go.Proofs.YtacfkhnajdneeaaDoor
open Go.RowKit

set_option maxRecDepth 20000 in
set_option maxHeartbeats 1600000 in
theorem lsame_any (v u : Value) (xs ys : List (List UInt8)) (w : World) (hv : Rows8 w v xs) (hu : Rows8 w u ys) (hx : xs.length ≤ 1000000000) (hy : ys.length ≤ 1000000000) :
    Calls Tryd.prog 17 #[v, u] w fun e w' => e = .returned (.bool (decide (xs = ys))) ∧ Below w.heap.size w w' := by
  obtain ⟨a, c, rfl, hm, hc, -, hrow⟩ := hv
  obtain ⟨b, k, rfl, hn, hk, -, hrow2⟩ := hu
  have HR := Lib.hid hrow
  have HR2 := Lib.hid hrow2
  obtain ⟨L, hL⟩ : ∃ L, L = xs.length := ⟨_, rfl⟩
  obtain ⟨N, hN⟩ : ∃ N, N = ys.length := ⟨_, rfl⟩
  rw [← hL] at hm hc hx ⊢
  rw [← hN] at hn hk hy ⊢
  have HL := Lib.hid hL
  have HN := Lib.hid hN
  clear hrow hrow2 hL hN
  by_cases h : L = N
  · subst h
    have e1 : ((L : Int) != (L : Int)) = false := by simp
    go_enter Tryd.func17, Tryd.ntmps17
    go_wp2_with fail
    clear e1
    go_loopw [5, 13] (fun _ i wr => ∃ q : Nat, q ≤ L ∧ i = .int .i64 q ∧ Hid (xs.take q = ys.take q) ∧ Hid (Below w.heap.size w wr)) (fun _ i _ => L - (intOf i).toNat)
    case atStart => exact ⟨0, by omega, rfl, Lib.hid rfl, Lib.hid (bre w)⟩
    case round =>
      obtain ⟨q, hq, rfl, heq, hb⟩ := hrel
      by_cases hlt : q < L
      · have hq1 : q < xs.length := by rw [← HL.out]; exact hlt
        have hq2 : q < ys.length := by rw [← HN.out]; exact hlt
        rcases HR.out with h0 | ⟨ga, oa, rfl, hcell⟩
        · rw [h0] at hq1; simp at hq1
        rcases HR2.out with h0 | ⟨gb, ob, rfl, hcell2⟩
        · rw [h0] at hq2; simp at hq2
        obtain ⟨ua, hua, hba⟩ := hcell q _ (List.getElem?_eq_getElem hq1)
        obtain ⟨ub, hub, hbb⟩ := hcell2 q _ (List.getElem?_eq_getElem hq2)
        have hca : wr.cell? ⟨ga, oa + q, none⟩ = some ua := (hb.out.cell (block_lt_of_cell hua)).trans hua
        have hcb : wr.cell? ⟨gb, ob + q, none⟩ = some ub := (hb.out.cell (block_lt_of_cell hub)).trans hub
        have HA := Lib.hid (hba.below hb.out)
        have HB := Lib.hid (hbb.below hb.out)
        have HCA := Lib.hid hca
        have HCB := Lib.hid hcb
        have d1 : decide ((q : Int) < (L : Int)) = true := decide_eq_true (by omega)
        have d1n : decide (q < L) = true := decide_eq_true hlt
        have hts : xs.take (q + 1) = xs.take q ++ [xs[q]] := List.take_succ_eq_append_getElem hq1
        have hts2 : ys.take (q + 1) = ys.take q ++ [ys[q]] := List.take_succ_eq_append_getElem hq2
        have HTS := Lib.hid (And.intro hts hts2)
        obtain ⟨x, hx1⟩ : ∃ x, x = xs[q] := ⟨_, rfl⟩
        obtain ⟨y, hy1⟩ : ∃ y, y = ys[q] := ⟨_, rfl⟩
        rw [← hx1] at HA HTS
        rw [← hy1] at HB HTS
        have HX1 := Lib.hid hx1
        have HY1 := Lib.hid hy1
        clear hcell hcell2 hua hub hba hbb hca hcb hts hts2 hx1 hy1
        go_upto_region 6 with fail
        refine region_anyZ (z := 8) (S := fun w' => (w'.cell? ⟨ga, oa + q, none⟩ = some ua ∧ w'.cell? ⟨gb, ob + q, none⟩ = some ub)) (by kernel_rfl) ?_
        refine anyZ_begin (fun hcl0 => ?_)
        refine anyZ_held (by exact ⟨HCA.out, HCB.out⟩) (fun hHeld => ?_)
        -- 0: Op.move (Operand.tmp 0)
        refine' anyZ_pure (i := 0) (v := _) rfl (by rfl) (by kernel_rfl) (by kernel_rfl) (by kernel_rfl) hcl0 (fun _ _ _ h => h) (Or.inl ⟨by rfl, fun w _ => ?hy1⟩) (fun _ => hHeld) (fun hcl1 => ?ry1)
        case hy1 => (simp only [List.getElem_toArray, List.getElem_cons_zero]; first | (go_simp; with_reducible rfl) | (go_simp; done) | rfl)
        simp only [List.getElem_toArray, List.getElem_cons_zero, Act.put, List.setIfInBounds_toArray, List.set_cons_zero, List.set_cons_succ]
        -- 1: Op.move (Operand.tmp 5)
        refine' anyZ_pure (i := 1) (v := _) rfl (by rfl) (by kernel_rfl) (by kernel_rfl) (by kernel_rfl) hcl1 (fun _ _ _ h => h) (Or.inl ⟨by rfl, fun w _ => ?hy2⟩) (fun _ => hHeld) (fun hcl2 => ?ry2)
        case hy2 => (simp only [List.getElem_toArray, List.getElem_cons_succ, List.getElem_cons_zero]; first | (go_simp; with_reducible rfl) | (go_simp; done) | rfl)
        simp only [List.getElem_toArray, List.getElem_cons_succ, List.getElem_cons_zero, Act.put, List.setIfInBounds_toArray, List.set_cons_zero, List.set_cons_succ]
        -- 2: Op.indexAddr 22 (Operand.tmp 16) (Operand.tmp 17)
        refine' anyZ_pure (i := 2) (v := _) rfl (by rfl) (by kernel_rfl) (by kernel_rfl) (by kernel_rfl) hcl2 (fun _ _ _ h => h) (Or.inl ⟨by rfl, fun w _ => ?hy3⟩) (fun _ => hHeld) (fun hcl3 => ?ry3)
        case hy3 => (simp only [List.getElem_toArray, List.getElem_cons_succ, List.getElem_cons_zero]; first | (go_simp; with_reducible rfl) | (go_simp; done) | rfl)
        simp only [List.getElem_toArray, List.getElem_cons_succ, List.getElem_cons_zero, Act.put, List.setIfInBounds_toArray, List.set_cons_zero, List.set_cons_succ]
        -- 3: Op.load 23 (Operand.tmp 18)
        refine' anyZ_take (i := 3) (v := _) rfl (by rfl) (by kernel_rfl) (by kernel_rfl) (by kernel_rfl) hcl3 8 (by kernel_rfl) (by kernel_rfl) (fun _ _ _ h => h) (Or.inl ⟨by rfl, fun w hSw => ?hy4⟩) hHeld (fun hcl4 => ?ry4)
        case hy4 => (simp only [List.getElem_toArray, List.getElem_cons_succ, List.getElem_cons_zero]; obtain ⟨hS1, hS2⟩ := hSw; first | (go_simp; with_reducible rfl) | (go_simp; done) | rfl)
        simp only [List.getElem_toArray, List.getElem_cons_succ, List.getElem_cons_zero, Act.put, List.setIfInBounds_toArray, List.set_cons_zero, List.set_cons_succ]
        -- 4: Op.move (Operand.tmp 1)
        refine' anyZ_pure (i := 4) (v := _) rfl (by rfl) (by kernel_rfl) (by kernel_rfl) (by kernel_rfl) hcl4 (fun _ _ _ h => h) (Or.inl ⟨by rfl, fun w _ => ?hy5⟩) (fun _ => hHeld) (fun hcl5 => ?ry5)
        case hy5 => (simp only [List.getElem_toArray, List.getElem_cons_succ, List.getElem_cons_zero]; first | (go_simp; with_reducible rfl) | (go_simp; done) | rfl)
        simp only [List.getElem_toArray, List.getElem_cons_succ, List.getElem_cons_zero, Act.put, List.setIfInBounds_toArray, List.set_cons_zero, List.set_cons_succ]
        -- 5: Op.move (Operand.tmp 5)
        refine' anyZ_pure (i := 5) (v := _) rfl (by rfl) (by kernel_rfl) (by kernel_rfl) (by kernel_rfl) hcl5 (fun _ _ _ h => h) (Or.inl ⟨by rfl, fun w _ => ?hy6⟩) (fun _ => hHeld) (fun hcl6 => ?ry6)
        case hy6 => (simp only [List.getElem_toArray, List.getElem_cons_succ, List.getElem_cons_zero]; first | (go_simp; with_reducible rfl) | (go_simp; done) | rfl)
        simp only [List.getElem_toArray, List.getElem_cons_succ, List.getElem_cons_zero, Act.put, List.setIfInBounds_toArray, List.set_cons_zero, List.set_cons_succ]
        -- 6: Op.indexAddr 22 (Operand.tmp 20) (Operand.tmp 21)
        refine' anyZ_pure (i := 6) (v := _) rfl (by rfl) (by kernel_rfl) (by kernel_rfl) (by kernel_rfl) hcl6 (fun _ _ _ h => h) (Or.inl ⟨by rfl, fun w _ => ?hy7⟩) (fun _ => hHeld) (fun hcl7 => ?ry7)
        case hy7 => (simp only [List.getElem_toArray, List.getElem_cons_succ, List.getElem_cons_zero]; first | (go_simp; with_reducible rfl) | (go_simp; done) | rfl)
        simp only [List.getElem_toArray, List.getElem_cons_succ, List.getElem_cons_zero, Act.put, List.setIfInBounds_toArray, List.set_cons_zero, List.set_cons_succ]
        -- 7: Op.load 23 (Operand.tmp 22)
        refine' anyZ_take (i := 7) (v := _) rfl (by rfl) (by kernel_rfl) (by kernel_rfl) (by kernel_rfl) hcl7 8 (by kernel_rfl) (by kernel_rfl) (fun _ _ _ h => h) (Or.inl ⟨by rfl, fun w hSw => ?hy8⟩) hHeld (fun hcl8 => ?ry8)
        case hy8 => (simp only [List.getElem_toArray, List.getElem_cons_succ, List.getElem_cons_zero]; obtain ⟨hS1, hS2⟩ := hSw; first | (go_simp; with_reducible rfl) | (go_simp; done) | rfl)
        simp only [List.getElem_toArray, List.getElem_cons_succ, List.getElem_cons_zero, Act.put, List.setIfInBounds_toArray, List.set_cons_zero, List.set_cons_succ]
        clear hHeld
        refine anyZ_chain_at (by kernel_rfl) ?_
        simp only [List.drop_succ_cons, List.drop_zero]
        go_wp2_with fail
        refine (same_any _ _ x y _ (HA.out.below (bdr (bre wr))) (HB.out.below (bdr (bre wr)))).mono ?_
        rintro e w3 ⟨rfl, nn, hw⟩
        have hb3 : Below wr.heap.size wr w3 := by rw [hw]; exact bdn (bdr (bre wr)) nn
        have HB3 := Lib.hid (btr hb.out hb3)
        clear hw hb3 d1 d1n hb
        by_cases hxy : x = y
        · rw [decide_eq_true hxy]
          have HE : Hid (xs.take (q + 1) = ys.take (q + 1)) := Lib.hid (by rw [HTS.out.1, HTS.out.2, heq.out, hxy])
          clear hxy heq
          go_wp2_with fail
          go_roundw
          case rel => exact ⟨q + 1, by omega, by go_num, HE, HB3⟩
          case measure => simp [intOf]; omega
        · rw [decide_eq_false hxy]
          have hne : decide (xs = ys) = false := decide_eq_false fun e => hxy (by
            rw [HX1.out, HY1.out]
            subst e
            rfl)
          have HNE := Lib.hid hne
          clear hxy heq hne
          go_wp2_with fail
          go_ret
          exact ⟨by rw [HNE.out]; rfl, HB3.out⟩
      · have e : q = L := by omega
        have hall : decide (xs = ys) = true := decide_eq_true (by
          have := heq.out
          rw [List.take_of_length_le (by rw [← HL.out]; omega), List.take_of_length_le (by rw [← HN.out]; omega)] at this
          exact this)
        have HALL := Lib.hid hall
        have d1 : decide ((q : Int) < (L : Int)) = false := decide_eq_false (by omega)
        have d1n : decide (q < L) = false := decide_eq_false hlt
        clear heq hall e
        go_wp2_with fail
        go_ret
        exact ⟨by rw [HALL.out]; rfl, hb.out⟩
  · have e1 : ((L : Int) != (N : Int)) = true := bne_iff_ne.2 (by omega)
    have e2 : decide ((L : Int) = (N : Int)) = false := decide_eq_false (by omega)
    have e3 : decide (L = N) = false := decide_eq_false h
    have e4 : (L != N) = true := bne_iff_ne.2 h
    have hne : decide (xs = ys) = false := decide_eq_false fun e => h (by rw [HL.out, HN.out, e])
    rw [hne]
    clear h hne
    go_enter Tryd.func17, Tryd.ntmps17
    go_wp2_with fail
    go_ret
    exact ⟨rfl, bre w⟩

set_option maxRecDepth 20000 in
theorem begins_any (v u : Value) (xs ys : List (List UInt8)) (w : World) (hv : Rows8 w v xs) (hu : Rows8 w u ys) (hx : xs.length ≤ 1000000000) :
    Calls Tryd.prog 18 #[v, u] w fun e w' => e = .returned (.bool (decide (xs = ys.take xs.length))) ∧ Below w.heap.size w w' := by
  obtain ⟨a, c, rfl, hm, hc, -, -⟩ := id hv
  obtain ⟨b, k, rfl, hn, hk, -, -⟩ := id hu
  have HV := Lib.hid hv
  by_cases h : xs.length ≤ ys.length
  · have HS := Lib.hid (lsame_any _ _ xs (ys.take xs.length) w hv (SliceOf.firsts hu xs.length h) hx (by rw [List.length_take]; omega))
    obtain ⟨R, hR⟩ : ∃ R, R = decide (xs = ys.take xs.length) := ⟨_, rfl⟩
    rw [← hR] at HS ⊢
    obtain ⟨L, hL⟩ : ∃ L, L = xs.length := ⟨_, rfl⟩
    obtain ⟨N, hN⟩ : ∃ N, N = ys.length := ⟨_, rfl⟩
    rw [← hL] at hm hc hx h HS ⊢
    rw [← hN] at hn hk h ⊢
    have d1 : decide ((L : Int) ≤ (N : Int)) = true := decide_eq_true (by omega)
    have d1n : decide (L ≤ N) = true := decide_eq_true h
    clear hv hu hR hL hN HV
    go_enter Tryd.func18, Tryd.ntmps18
    go_wp2_with fail
    refine HS.out.mono ?_
    rintro e w2 ⟨rfl, hb2⟩
    go_wp2_with fail
    go_ret
    exact ⟨rfl, hb2⟩
  · have hno : decide (xs = ys.take xs.length) = false := decide_eq_false fun e => by
      have := congrArg List.length e
      rw [List.length_take] at this
      omega
    rw [hno]
    obtain ⟨L, hL⟩ : ∃ L, L = xs.length := ⟨_, rfl⟩
    obtain ⟨N, hN⟩ : ∃ N, N = ys.length := ⟨_, rfl⟩
    rw [← hL] at hm hc hx h ⊢
    rw [← hN] at hn hk h ⊢
    have d1 : decide ((L : Int) ≤ (N : Int)) = false := decide_eq_false (by omega)
    have d1n : decide (L ≤ N) = false := decide_eq_false h
    clear hv hu hL hN HV hno
    go_enter Tryd.func18, Tryd.ntmps18
    go_wp2_with fail
    go_ret
    exact ⟨rfl, bre w⟩
end Go.Proofs.YtacfkhnajdneeaaDoor
