/- Merged: r1/Cut r1/Clone r1/Same r1/Join tape/Writer tape/Varint tape/WNum tape/WRest reel/Reader tape/RNum tape/RRest tape/SizesP tape/Number tape/Dec tape/Ref5 tape/LayR. -/
import Derived.Test.YtnbncjebmlicgaaChecked
import Derived.Test.YtnbncjebmlicgaaPreA
import Derived.Deep.QuietTactic
import Derived.BigQuiet
import Derived.Deep.DeepCutAuto
import Derived.Deep.RegionHeld3
/- Walk: Cut: the first bytes of a text, in memory of its own. -/
namespace Go.Proofs.Ytnbncjebmlicgaa
open Go.RowKit

theorem row8 : RowTy Try.prog 55 5 1 1 := RowTy.mk' (z := .int .u8 0) Try.underlying55 (by kernel_rfl) rfl (by omega)

theorem take_take_snoc (p : List UInt8) (k m : Nat) (hk : k < p.length) : (p.take (k + 1)).take m = if k < m then (p.take k).take m ++ [p[k]] else (p.take k).take m := by
  rw [List.take_take, List.take_take]
  by_cases h : k < m
  · rw [if_pos h, show min m (k + 1) = k + 1 by omega, show min m k = k by omega, List.take_succ_eq_append_getElem hk]
  · rw [if_neg h, show min m (k + 1) = m by omega, show min m k = m by omega]

set_option maxRecDepth 10000 in
set_option maxHeartbeats 400000 in
theorem cut_any (v : Value) (p : List UInt8) (m : Int) (hm0 : 0 ≤ m) (hm1 : m ≤ 1000000) (w : World) (hv : Bytes w v p) :
    Calls Try.prog 32 #[v, .int .i64 m] w fun e w' => ∃ v', e = .returned v' ∧ Own8 5 w.heap.size w' v' (p.take m.toNat) ∧ Below w.heap.size w w' := by
  obtain ⟨m, rfl⟩ := Int.eq_ofNat_of_zero_le hm0
  rw [Int.toNat_natCast]
  obtain ⟨a, c, rfl, hm, hc, _, hrow⟩ := hv
  unfold maxLen at hm
  have HR := Lib.hid hrow
  clear hrow
  go_enter Try.func32, Try.ntmps32
  go_wp2
  go_loopw [5, 6, 7, 10] (fun out _ _ i wr => ∃ (k : Nat) (l : List UInt8), k ≤ p.length ∧ i = .int .i64 k ∧ Hid (l = (p.take k).take m) ∧ Own8 5 w.heap.size wr out l ∧ Below w.heap.size w wr) (fun _ _ _ i _ => p.length - (intOf i).toNat)
  case atStart => exact ⟨0, [], by omega, rfl, Lib.hid (by simp), Own8.nil _ _ _, Below.refl _ _⟩
  case round =>
    obtain ⟨k, l, hk, rfl, HL, hown, hb⟩ := hrel
    by_cases hlt : k < p.length
    · rcases HR.out with h0 | ⟨g, o, rfl, hcell⟩
      · subst h0; simp at hlt
      · obtain ⟨_, hu, rfl⟩ := hcell k _ (List.getElem?_eq_getElem hlt)
        clear hcell
        have hg : g < w.heap.size := block_lt_of_cell hu
        have hu' : wr.cell? ⟨g, o + k, none⟩ = some (B8 p[k]) := (hb.cell hg).trans hu
        have hg' : g < wr.heap.size := block_lt_of_cell hu'
        clear hu
        have hts := take_take_snoc p k m hlt
        rw [← HL.out] at hts
        by_cases hmk : k < m
        · rw [if_pos hmk] at hts
          have HT := Lib.hid hts
          clear hts
          have hlen : l.length ≤ k := by rw [HL.out]; simp; omega
          generalize p[k] = b at *
          unfold B8 at hu'
          have hB : Below w.heap.size w (wr.alloc (.cells #[.int .u8 (b.toNat : Int)] 5)) := hb.alloc hb.size _
          go_wp2_with (at_builtin; refine wpList_app8 rfl _ _ 55 5 row8 rfl w.heap.size _ l rfl (World.ownsRow.alloc hown _) _ [b] rfl (bytes_one _ b _) (by simp; omega) (by exact hB.size) ?_; intro v' w1 h1 _ h3)
          have hb1 : Below w.heap.size w w1 := hB.trans h3
          clear h3 hown hb hu' hg' hB
          go_wp2
          go_roundw
          case rel => exact ⟨k + 1, _, by omega, by go_num, Lib.hid HT.out.symm, h1, hb1⟩
          case measure => simp [intOf]; omega
        · rw [if_neg hmk] at hts
          have HT := Lib.hid hts
          clear hts
          go_wp2
          go_roundw
          case rel => exact ⟨k + 1, l, by omega, by go_num, Lib.hid HT.out.symm, hown, hb⟩
          case measure => simp [intOf]; omega
    · have e : k = p.length := by omega
      subst e
      have hl := HL.out
      rw [List.take_length] at hl
      subst hl
      go_wp2
      go_ret
      exact ⟨_, rfl, hown, hb⟩
end Go.Proofs.Ytnbncjebmlicgaa
/- Walk: bytes.Clone. -/
namespace Go.Proofs.Ytnbncjebmlicgaa
open Go.RowKit

set_option maxRecDepth 10000 in
set_option maxHeartbeats 400000 in
theorem clone_any (v : Value) (p : List UInt8) (w : World) (hv : Bytes w v p) (hbig : p.length ≤ 140737488355328) :
    Calls Try.prog 70 #[v] w fun e w' => ∃ v', e = .returned v' ∧ Own8 5 w.heap.size w' v' p ∧ Below w.heap.size w w' := by
  obtain ⟨a, c, rfl, hm, hc, hnil, hrow⟩ := id hv
  have HR := Lib.hid hrow
  clear hrow
  have hb : Below w.heap.size w (w.alloc (.cells #[] 5)) := (Below.refl _ _).alloc (Nat.le_refl _) _
  have hv2 : Bytes (w.alloc (.cells #[] 5)) (.slice a p.length c) p := hv.below hb
  have hown : Own8 5 w.heap.size (w.alloc (.cells #[] 5)) (.slice (some ⟨w.heap.size, 0, none⟩) 0 0) [] := World.ownsRow_made w #[] 0 (Nat.le_refl _) (by simp [maxLen]) (by simp)
  have he := fun (w : World) (a : Option Addr) (n c n' c' : Nat) => Lib.run_eql_slice_nil (P := Try.prog) w 55 5 a n c n' c' Try.underlying55
  cases a with
  | none =>
    have hc0 := hnil rfl
    subst hc0
    have hp : p = [] := List.length_eq_zero_iff.1 (by omega)
    subst hp
    go_enter Try.func70, Try.ntmps70
    go_wp2
    go_ret
    exact ⟨_, rfl, Own8.nil _ _ _, Below.refl _ _⟩
  | some ad =>
    go_enter Try.func70, Try.ntmps70
    go_wp2_with (at_builtin; refine wpList_app8 rfl _ _ 55 5 row8 rfl w.heap.size _ [] rfl hown _ p rfl hv2 (by simpa using hbig) (by exact hb.size) ?_; intro v' w1 h1 _ h3)
    go_ret
    exact ⟨_, rfl, h1, hb.trans h3⟩

end Go.Proofs.Ytnbncjebmlicgaa
/- Walk: Same: are two texts alike? -/
namespace Go.Proofs.Ytnbncjebmlicgaa
open Go.RowKit

set_option maxRecDepth 10000 in
set_option maxHeartbeats 400000 in
theorem same_any (v u : Value) (p q : List UInt8) (w : World) (hv : Bytes w v p) (hq : Bytes w u q) :
    Calls Try.prog 34 #[v, u] w fun e w' => e = .returned (.bool (decide (p = q))) ∧ ∃ n, w' = w.drewN n := by
  obtain ⟨a, c, rfl, hm, hc, _, hrow⟩ := hv
  obtain ⟨a2, c2, rfl, hm2, hc2, _, hrow2⟩ := hq
  unfold maxLen at hm hm2
  have HR := Lib.hid hrow
  have HR2 := Lib.hid hrow2
  clear hrow hrow2
  by_cases hl : p.length = q.length
  · have hlb : ((p.length : Int) != (q.length : Int)) = false := by simp [hl]
    have HL := Lib.hid hl
    clear hl
    go_enter Try.func34, Try.ntmps34
    go_wp2
    go_loopw [5, 13] (fun _ i wr => ∃ k n : Nat, k ≤ p.length ∧ i = .int .i64 k ∧ wr = w.drewN n ∧ Hid (p.take k = q.take k)) (fun _ i _ => p.length - (intOf i).toNat)
    case atStart => exact ⟨0, 0, by omega, rfl, rfl, Lib.hid rfl⟩
    case round =>
      obtain ⟨k, n, hk, rfl, rfl, HT⟩ := hrel
      by_cases hlt : k < p.length
      · have hlt2 : k < q.length := by have := HL.out; omega
        rcases HR.out with h0 | ⟨g, o, rfl, hcell⟩
        · subst h0; simp at hlt
        rcases HR2.out with h0 | ⟨g2, o2, rfl, hcell2⟩
        · subst h0; simp at hlt2
        obtain ⟨_, hu, rfl⟩ := hcell k _ (List.getElem?_eq_getElem hlt)
        obtain ⟨_, hu2, rfl⟩ := hcell2 k _ (List.getElem?_eq_getElem hlt2)
        unfold B8 at hu hu2
        clear hcell hcell2
        have hp := List.take_succ_eq_append_getElem hlt
        have hq := List.take_succ_eq_append_getElem hlt2
        by_cases hpq : p[k] = q[k]
        · have hb : ((p[k].toNat : Int) != (q[k].toNat : Int)) = false := by simp [hpq]
          have HT1 : Hid (p.take (k + 1) = q.take (k + 1)) := Lib.hid (by rw [hp, hq, HT.out, hpq])
          clear hpq hp hq HT
          go_wp2_with fail
          go_quiet (fail)
          go_wp2
          go_roundw
          case rel => exact ⟨k + 1, _, by omega, by go_num, rfl, HT1⟩
          case measure => simp [intOf]; omega
        · have hb : ((p[k].toNat : Int) != (q[k].toNat : Int)) = true := by
            simp only [bne_iff_ne, ne_eq, Int.natCast_inj]
            exact fun h => hpq (UInt8.toNat_inj.1 h)
          have hne : p ≠ q := by
            intro h
            subst h
            exact hpq rfl
          have HN := Lib.hid hne
          clear hpq hp hq HT hne
          go_wp2_with fail
          go_quiet (fail)
          go_wp2
          go_ret
          exact ⟨by rw [decide_eq_false HN.out]; rfl, n + nq, by simp⟩
      · have e : k = p.length := by omega
        subst e
        have hpq : p = q := by
          have h := HT.out
          rw [List.take_length, List.take_of_length_le (by have := HL.out; omega)] at h
          exact h
        have HN := Lib.hid hpq
        clear hpq
        go_wp2
        go_ret
        exact ⟨by rw [decide_eq_true HN.out]; rfl, _, rfl⟩
  · have hlb : ((p.length : Int) != (q.length : Int)) = true := by simp; omega
    have hne : decide (p = q) = false := by simp; intro h; subst h; exact hl rfl
    go_enter Try.func34, Try.ntmps34
    go_wp2
    go_ret
    exact ⟨rfl, 0, rfl⟩
end Go.Proofs.Ytnbncjebmlicgaa
/- Walk: Join: texts behind one another. -/
namespace Go.Proofs.Ytnbncjebmlicgaa
open Go.RowKit

theorem flat_snoc' (ls : List (List UInt8)) (k : Nat) (h : k < ls.length) : (ls.take (k + 1)).flatten = (ls.take k).flatten ++ ls[k] := by
  rw [List.take_succ_eq_append_getElem h, List.flatten_append]; simp

set_option maxRecDepth 10000 in
set_option maxHeartbeats 400000 in
theorem join_any (v : Value) (ls : List (List UInt8)) (w : World) (hv : Rows8 w v ls) (hbig : ls.flatten.length ≤ 140737488355328) :
    Calls Try.prog 36 #[v] w fun e w' => ∃ v', e = .returned v' ∧ Own8 5 w.heap.size w' v' ls.flatten ∧ Below w.heap.size w w' := by
  obtain ⟨a, c, rfl, hm, hc, _, hrow⟩ := hv
  unfold maxLen at hm
  have HR := Lib.hid hrow
  clear hrow
  go_enter Try.func36, Try.ntmps36
  go_wp2
  go_loopw [3, 5, 8] (fun out _ i wr => ∃ (k : Nat) (l : List UInt8), k ≤ ls.length ∧ i = .int .i64 k ∧ Hid (l = (ls.take k).flatten) ∧ Own8 5 w.heap.size wr out l ∧ Below w.heap.size w wr) (fun _ _ i _ => ls.length - (intOf i).toNat)
  case atStart => exact ⟨0, [], by omega, rfl, Lib.hid (by simp), Own8.nil _ _ _, Below.refl _ _⟩
  case round =>
    obtain ⟨k, l, hk, rfl, HL, hown, hb⟩ := hrel
    by_cases hlt : k < ls.length
    · rcases HR.out with h0 | ⟨g, o, rfl, hcell⟩
      · subst h0; simp at hlt
      · obtain ⟨u, hu, hbu⟩ := hcell k _ (List.getElem?_eq_getElem hlt)
        clear hcell
        have hg : g < w.heap.size := block_lt_of_cell hu
        have hu' : wr.cell? ⟨g, o + k, none⟩ = some u := (hb.cell hg).trans hu
        have hg' : g < wr.heap.size := block_lt_of_cell hu'
        have hbu' : Bytes wr u ls[k] := hbu.below hb
        have hts := flat_snoc' ls k hlt
        rw [← HL.out] at hts
        have HT := Lib.hid hts
        have hlen : l.length + ls[k].length ≤ 140737488355328 := by
          have h1 : (ls.take (k + 1)).flatten.length ≤ ls.flatten.length := by
            conv => rhs; rw [← List.take_append_drop (k + 1) ls, List.flatten_append, List.length_append]
            omega
          rw [hts, List.length_append] at h1
          omega
        clear hts hu hbu
        generalize ls[k] = x at *
        have hsz := hb.size
        go_wp2_with (at_builtin; refine wpList_app8 rfl _ _ 55 5 row8 rfl w.heap.size _ l rfl hown _ x rfl hbu' hlen hsz ?_; intro v' w1 h1 _ h3)
        have hb1 : Below w.heap.size w w1 := hb.trans h3
        clear h3 hown hb hu' hg' hbu' hsz
        go_wp2
        go_roundw
        case rel => exact ⟨k + 1, _, by omega, by go_num, Lib.hid HT.out.symm, h1, hb1⟩
        case measure => simp [intOf]; omega
    · have e : k = ls.length := by omega
      subst e
      have hl := HL.out
      rw [List.take_length] at hl
      subst hl
      go_wp2
      go_ret
      exact ⟨_, rfl, hown, hb⟩
end Go.Proofs.Ytnbncjebmlicgaa
/- Walks: a writer of bytes: add. -/
namespace Go.Proofs.Ytnbncjebmlicgaa
open Go.RowKit

/-- the block in which what a one-field object owns lies -/
def slotBlock (w : World) (g : Nat) : Option Nat := (w.cell? ⟨g, 0, none⟩).bind Value.ownBlock

/-- a writer that holds the bytes l -/
def WriterAt (base : Nat) (w : World) (g : Nat) (l : List UInt8) : Prop :=
  ∃ v, w.heap[g]? = some (.cells #[v] 91 (0, 0)) ∧ Own8 5 base w v l

/-- only the writer at g has turned, and where its bytes lie -/
structure Grew (w w' : World) (g : Nat) : Prop where
  only : Only w w' (fun k => k = g ∨ slotBlock w g = some k)
  fresh : slotBlock w' g = slotBlock w g ∨ ∀ k, slotBlock w' g = some k → w.heap.size ≤ k

theorem Grew.refl (w : World) (g : Nat) : Grew w w g := ⟨Only.refl _ _, .inl rfl⟩
theorem Grew.trans {a b c : World} {g : Nat} (h : Grew a b g) (k : Grew b c g) : Grew a c g := by
  refine ⟨h.only.trans k.only (fun i hi ht => ?_), ?_⟩
  · rcases ht with rfl | ht
    · exact .inl rfl
    · rcases h.fresh with hf | hf
      · right; rw [← hf]; exact ht
      · have := hf i ht; omega
  · rcases k.fresh with hk | hk
    · rcases h.fresh with hf | hf
      · left; rw [hk, hf]
      · right; intro i hi; rw [hk] at hi; exact hf i hi
    · right; intro i hi; exact Nat.le_trans h.only.size (hk i hi)

theorem slotBlock_at {w : World} {g : Nat} {v : Value} {T : Nat} (h : w.heap[g]? = some (.cells #[v] T (0, 0))) : slotBlock w g = v.ownBlock := by
  unfold slotBlock
  rw [cell_of_row w g 0 _ _ _ h]
  rfl

theorem own8_block {e base : Nat} {w : World} {v : Value} {l : List UInt8} (h : Own8 e base w v l) {g : Nat} (hg : v.ownBlock = some g) : ∃ cur, w.heap[g]? = some (.cells cur e (0, 0)) := by
  rcases h.2 with ⟨rfl, _⟩ | ⟨g', c, cur, rfl, _, hg', _⟩
  · cases hg
  · simp [Value.ownBlock] at hg
    subst hg
    exact ⟨cur, hg'⟩

theorem own8_ne {e base T : Nat} {w : World} {v : Value} {l : List UInt8} (h : Own8 e base w v l) {g : Nat} {cs : Array Value} {fr : Nat × Nat} (hg : w.heap[g]? = some (.cells cs T fr)) (hT : T ≠ e) : v.ownBlock ≠ some g := by
  intro hb
  obtain ⟨cur, hc⟩ := own8_block h hb
  rw [hg] at hc
  cases hc
  exact hT rfl

set_option maxRecDepth 10000 in
set_option maxHeartbeats 400000 in
theorem add_any (base g : Nat) (l : List UInt8) (u : Value) (m : List UInt8) (w : World) (hw : WriterAt base w g l) (hm : Bytes w u m) (hbig : l.length + m.length ≤ 140737488355328) (hbase : base ≤ w.heap.size) :
    Calls Try.prog 69 #[.pointer (some ⟨g, 0, none⟩), u] w fun e w' =>
      e = .returned (.pointer (some ⟨g, 0, none⟩)) ∧ WriterAt base w' g (l ++ m) ∧ Grew w w' g := by
  obtain ⟨v, hg, hown⟩ := hw
  obtain ⟨a, c, rfl, _, _, _, _⟩ := id hm
  have hcell : w.cell? ⟨g, 0, none⟩ = some v := cell_of_row w g 0 _ _ _ hg
  have HG := Lib.hid hg
  have hne : v.ownBlock ≠ some g := own8_ne hown hg (by decide)
  clear hg
  go_enter Try.func69, Try.ntmps69
  go_wp2_with (at_builtin; refine wpList_app8' rfl _ _ 55 5 row8 rfl base v l rfl hown _ m rfl hm hbig hbase ?_; intro v' w1 h1 h2 h3; obtain ⟨a1, n1, c1, rfl⟩ := h1.isSlice; have hg1 := h2.block g (block_lt_of_cell hcell) (fun e => hne e.symm); have hcell1 := (World.cell?_of_block (a := ⟨g, 0, none⟩) hg1).trans hcell; have hfr1 := (World.frozen?_of_block (a := ⟨g, 0, none⟩) hg1).trans (frozen_of_row w g 0 _ _ HG.out))
  go_ret
  have hgw := hg1.trans HG.out
  have hst : (w1.setCell ⟨g, 0, none⟩ (.slice a1 n1 c1)).heap[g]? = some (.cells #[.slice a1 n1 c1] 91 (0, 0)) := heap_setCell_same w1 g 0 _ _ (.slice a1 n1 c1) hgw
  have hne1 : (Value.slice a1 n1 c1).ownBlock ≠ some g := own8_ne h1 hgw (by decide)
  have hown2 : Own8 5 base (w1.setCell ⟨g, 0, none⟩ (.slice a1 n1 c1)) (.slice a1 n1 c1) (l ++ m) :=
    World.ownsRow.kept (row := some g) h1 ⟨rfl, rfl, rfl, by simp [World.setCell], fun k _ hk => heap_setCell_other _ _ _ _ (fun e => hk (by rw [e]))⟩ (.inr hne1)
  refine ⟨rfl, ⟨_, hst, hown2⟩, ?_, ?_⟩
  · refine ((Only.of_grown h2).mono (T := fun k => k = g ∨ slotBlock w g = some k) (fun i _ hi => .inr ?_)).trans (Only.setCell _ _ _) (fun i _ hi => .inl hi)
    rw [slotBlock_at HG.out]
    exact hi
  · rw [slotBlock_at hst, slotBlock_at HG.out]
    rcases h3 with h | h
    · exact .inl h
    · exact .inr h
end Go.Proofs.Ytnbncjebmlicgaa
/- Plain: a number as bytes of seven bits. No program is in sight. -/
namespace Vi

/-- a number's bytes, the lowest seven bits first -/
def vbytes : Nat → Nat → List UInt8
  | 0, n => [UInt8.ofNat n]
  | f + 1, n => if n < 128 then [UInt8.ofNat n] else UInt8.ofNat (n % 128 + 128) :: vbytes f (n / 128)
def varint (n : Nat) : List UInt8 := vbytes 9 n

theorem vbytes_more (f : Nat) : ∀ n, n < 128 ^ (f + 1) → vbytes (f + 1) n = vbytes f n := by
  induction f with
  | zero => intro n h; simp only [vbytes]; rw [if_pos (by simpa using h)]
  | succ f ih =>
    intro n h
    rw [vbytes]
    conv => rhs; rw [vbytes]
    split
    · rfl
    · rw [ih (n / 128) (by rw [Nat.div_lt_iff_lt_mul (by omega)]; rw [Nat.pow_succ] at h; exact h)]

theorem varint_small {n : Nat} (h : n < 128) : varint n = [UInt8.ofNat n] := by
  unfold varint vbytes; rw [if_pos h]

theorem varint_step {n : Nat} (h : 128 ≤ n) (hn : n < 18446744073709551616) : varint n = UInt8.ofNat (n % 128 + 128) :: varint (n / 128) := by
  unfold varint
  rw [vbytes_more 8 (n / 128) (by
    have : (128 : Nat) ^ 9 = 9223372036854775808 := by decide
    omega)]
  conv => lhs; rw [vbytes]
  rw [if_neg (by omega)]

theorem vbytes_length (f : Nat) : ∀ n, 0 < (vbytes f n).length ∧ (vbytes f n).length ≤ f + 1 := by
  induction f with
  | zero => intro n; simp [vbytes]
  | succ f ih =>
    intro n
    have := ih (n / 128)
    simp only [vbytes]
    split
    · simp
    · simp; omega

theorem varint_length (n : Nat) : 0 < (varint n).length ∧ (varint n).length ≤ 10 := vbytes_length 9 n

end Vi
/- Walks: a writer's Num. -/
namespace Go.Proofs.Ytnbncjebmlicgaa
open Go.RowKit

theorem WriterAt.below {base : Nat} {w w' : World} {g : Nat} {l : List UInt8} (h : WriterAt base w g l) (hb : Below w.heap.size w w') : WriterAt base w' g l := by
  obtain ⟨v, hg, hown⟩ := h
  exact ⟨v, (hb.block g (Array.getElem?_eq_some_iff.1 hg).1).trans hg, Own8.kept hown (Nat.le_refl _) hb⟩
theorem WriterAt.lt {base : Nat} {w : World} {g : Nat} {l : List UInt8} (h : WriterAt base w g l) : g < w.heap.size := by
  obtain ⟨v, hg, _⟩ := h
  exact (Array.getElem?_eq_some_iff.1 hg).1
theorem Grew.of_below {w w' : World} {g : Nat} (hb : Below w.heap.size w w') (hg : g < w.heap.size) : Grew w w' g :=
  ⟨Only.of_below hb _, .inl (by unfold slotBlock; rw [hb.cell (p := ⟨g, 0, none⟩) hg])⟩
theorem Grew.size {w w' : World} {g : Nat} (h : Grew w w' g) : w.heap.size ≤ w'.heap.size := h.only.size

theorem or128 (n : Nat) : bits .or .u8 ((n : Int) % 256) 128 = ((UInt8.ofNat (n % 128 + 128)).toNat : Int) := by
  have h1 : (n : Int) % 256 = ((n % 256 : Nat) : Int) := by omega
  rw [h1, UInt8.toNat_ofNat_of_lt' (show n % 128 + 128 < UInt8.size by simp [UInt8.size]; omega)]
  have h2 : bits .or .u8 ((n % 256 : Nat) : Int) 128 = ((n % 256 ||| 128 : Nat) : Int) := u8_or_nat (n % 256) 128 (by omega) (by omega)
  have h3 : n % 256 ||| 128 = n % 128 + 128 := by
    apply Nat.eq_of_testBit_eq
    intro i
    have e : n % 128 + 128 = 2 ^ 7 * 1 + n % 2 ^ 7 := by omega
    rw [e, Nat.testBit_or, show (256 : Nat) = 2 ^ 8 by decide, Nat.testBit_mod_two_pow, show (128 : Nat) = 2 ^ 7 by decide, Nat.testBit_two_pow, Nat.testBit_two_pow_mul_add _ (Nat.mod_lt _ (by decide)), Nat.testBit_mod_two_pow]
    by_cases h7 : i < 7
    · have : ¬ 7 = i := by omega
      simp [h7, this, show i < 8 by omega]
    · by_cases h : i = 7
      · subst h; simp
      · have h8 : ¬ i < 8 := by omega
        have h9 : ¬ 7 = i := by omega
        have h10 : Nat.testBit 1 (i - 7) = false := by
          rw [show (1 : Nat) = 2 ^ 0 by decide, Nat.testBit_two_pow]; simp; omega
        simp [h7, h8, h9, h10]
  rw [h2, h3]

set_option maxRecDepth 10000 in
set_option maxHeartbeats 400000 in
theorem num_any (base g : Nat) (l : List UInt8) (n : Nat) (w : World) (hn : n < 18446744073709551616) (hw : WriterAt base w g l) (hbig : l.length + 10 ≤ 140737488355328) (hbase : base ≤ w.heap.size) :
    Calls Try.prog 48 #[.pointer (some ⟨g, 0, none⟩), .int .u64 n] w fun e w' =>
      e = .returned (.pointer (some ⟨g, 0, none⟩)) ∧ WriterAt base w' g (l ++ Vi.varint n) ∧ Grew w w' g := by
  go_enter Try.func48, Try.ntmps48
  go_wp2
  go_loopw [1] (fun c wr => ∃ (m : Nat) (p : List UInt8), c = .int .u64 m ∧ m < 18446744073709551616 ∧ Hid (p ++ Vi.varint m = Vi.varint n) ∧ WriterAt base wr g (l ++ p) ∧ Grew w wr g) (fun c _ => (intOf c).toNat)
  case atStart => exact ⟨n, [], rfl, hn, Lib.hid rfl, by simpa using hw, Grew.refl _ _⟩
  case round =>
    obtain ⟨m, p, rfl, hm, HP, hwr, hgr⟩ := hrel
    have hplen : p.length ≤ 9 := by
      have h := congrArg List.length HP.out
      rw [List.length_append] at h
      have h1 := (Vi.varint_length n).2
      have h2 := (Vi.varint_length m).1
      omega
    have hlt := hwr.lt
    have hsz := hgr.size
    by_cases h128 : 128 ≤ m
    · have hst := Vi.varint_step h128 hm
      have hor := or128 m
      have HS := Lib.hid hst
      clear hst
      have hwa := hwr.below (bal (bre wr) (.cells #[.int .u8 ((UInt8.ofNat (m % 128 + 128)).toNat : Int)] 5))
      have hga := hgr.trans (Grew.of_below (bal (bre wr) (.cells #[.int .u8 ((UInt8.ofNat (m % 128 + 128)).toNat : Int)] 5)) hlt)
      have hb1 := bytes_one wr (UInt8.ofNat (m % 128 + 128)) 5
      unfold B8 at hb1
      generalize UInt8.ofNat (m % 128 + 128) = b at *
      have hlen : (l ++ p).length + [b].length ≤ 140737488355328 := by simp; omega
      have hbs : base ≤ (wr.alloc (.cells #[.int .u8 (b.toNat : Int)] 5)).heap.size := by simp; omega
      clear hwr hgr
      go_wp2_with (go_at_call 69; refine (add_any base g (l ++ p) _ [b] _ hwa hb1 hlen hbs).mono ?_; rintro e w2 ⟨rfl, hw2, hg2⟩)
      have hgn := hga.trans hg2
      clear hga hg2 hwa hb1 hlen hbs hor
      go_roundw
      case rel => exact ⟨m / 128, p ++ [b], by go_num, by omega, Lib.hid (by rw [← HP.out, HS.out]; simp), by simpa using hw2, hgn⟩
      case measure => simp [intOf]; omega
    · have hst := Vi.varint_small (show m < 128 by omega)
      have h8 : ((UInt8.ofNat m).toNat : Int) = (m : Int) := by
        rw [UInt8.toNat_ofNat_of_lt' (show m < UInt8.size by simp [UInt8.size]; omega)]
      have HS := Lib.hid hst
      clear hst
      have hwa := hwr.below (bal (bre wr) (.cells #[.int .u8 (m : Int)] 5))
      have hga := hgr.trans (Grew.of_below (bal (bre wr) (.cells #[.int .u8 (m : Int)] 5)) hlt)
      have hb1 := bytes_one wr (UInt8.ofNat m) 5
      unfold B8 at hb1
      rw [h8] at hb1
      have hlen : (l ++ p).length + [UInt8.ofNat m].length ≤ 140737488355328 := by simp; omega
      have hbs : base ≤ (wr.alloc (.cells #[.int .u8 (m : Int)] 5)).heap.size := by simp; omega
      clear hwr hgr h8
      go_wp2_with (go_at_call 69; refine (add_any base g (l ++ p) _ [UInt8.ofNat m] _ hwa hb1 hlen hbs).mono ?_; rintro e w2 ⟨rfl, hw2, hg2⟩)
      have hgn := hga.trans hg2
      go_ret
      refine ⟨rfl, ?_, hgn⟩
      rw [← HP.out, HS.out, ← List.append_assoc]
      exact hw2
end Go.Proofs.Ytnbncjebmlicgaa
/- Walks: a writer's Int, Text, Byte, Bool, Bytes. -/
namespace Go.Proofs.Ytnbncjebmlicgaa
open Go.RowKit

/-- an int as a number: its sign lowest -/
def zig (n : Int) : Nat := if n < 0 then (-2 * n - 1).toNat else (2 * n).toNat

theorem zig_lt {n : Int} (h0 : -9223372036854775808 ≤ n) (h1 : n ≤ 9223372036854775807) : zig n < 18446744073709551616 := by
  unfold zig; split <;> omega

theorem not64 (s : Nat) (hs : s < 18446744073709551616) : s ^^^ 18446744073709551615 = 18446744073709551615 - s := by
  have e2 : 18446744073709551615 - s = 2 ^ 64 - (s + 1) := by omega
  rw [e2, show (18446744073709551615 : Nat) = 2 ^ 64 - 1 by decide]
  apply Nat.eq_of_testBit_eq
  intro i
  rw [Nat.testBit_xor, Nat.testBit_two_pow_sub_one, Nat.testBit_two_pow_sub_succ (by omega)]
  by_cases hi : i < 64
  · simp [hi]
  · have h : s.testBit i = false := Nat.testBit_lt_two_pow (Nat.lt_of_lt_of_le hs (by
      have := Nat.pow_le_pow_right (n := 2) (by omega) (show 64 ≤ i by omega)
      omega))
    simp [hi, h]

theorem zig_bits (n : Int) (h0 : -9223372036854775808 ≤ n) (h1 : n ≤ 9223372036854775807) :
    bits .xor .u64 (IntKind.u64.wrap (IntKind.u64.wrap n * 2)) (IntKind.u64.wrap (n / 9223372036854775808)) = (zig n : Int) := by
  rw [IntKind.wrap_u64, IntKind.wrap_u64, IntKind.wrap_u64]
  by_cases h : n < 0
  · have e1 : n % 18446744073709551616 * 2 % 18446744073709551616 = ((2 * n + 18446744073709551616).toNat : Int) := by omega
    have e2 : n / 9223372036854775808 % 18446744073709551616 = ((18446744073709551615 : Nat) : Int) := by omega
    rw [e1, e2, bits_xor_u64_nat _ _ (by omega) (by omega), not64 _ (by omega)]
    unfold zig; rw [if_pos h]; omega
  · have e1 : n % 18446744073709551616 * 2 % 18446744073709551616 = ((2 * n).toNat : Int) := by omega
    have e2 : n / 9223372036854775808 % 18446744073709551616 = ((0 : Nat) : Int) := by omega
    rw [e1, e2, bits_xor_u64_nat _ _ (by omega) (by omega), Nat.xor_zero]
    unfold zig; rw [if_neg h]

set_option maxRecDepth 10000 in
set_option maxHeartbeats 400000 in
theorem wint_any (base g : Nat) (l : List UInt8) (n : Int) (w : World) (h0 : -9223372036854775808 ≤ n) (h1 : n ≤ 9223372036854775807) (hw : WriterAt base w g l) (hbig : l.length + 10 ≤ 140737488355328) (hbase : base ≤ w.heap.size) :
    Calls Try.prog 51 #[.pointer (some ⟨g, 0, none⟩), .int .i64 n] w fun e w' =>
      e = .returned (.pointer (some ⟨g, 0, none⟩)) ∧ WriterAt base w' g (l ++ Vi.varint (zig n)) ∧ Grew w w' g := by
  go_enter Try.func51, Try.ntmps51
  go_wp2_with fail
  rw [zig_bits n h0 h1]
  refine (num_any base g l (zig n) w (zig_lt h0 h1) hw hbig hbase).mono ?_
  rintro e w1 ⟨rfl, hw1, hg1⟩
  go_wp2
  go_ret
  exact ⟨rfl, hw1, hg1⟩

set_option maxRecDepth 10000 in
set_option maxHeartbeats 400000 in
theorem wtext_any (base g : Nat) (l : List UInt8) (s : ByteArray) (w : World) (hs : s.size ≤ 100000000) (hw : WriterAt base w g l) (hbig : l.length ≤ 1000000000) (hbase : base ≤ w.heap.size) :
    Calls Try.prog 50 #[.pointer (some ⟨g, 0, none⟩), .string s] w fun e w' =>
      e = .returned (.pointer (some ⟨g, 0, none⟩)) ∧ WriterAt base w' g (l ++ (Vi.varint s.size ++ s.data.toList)) ∧ Grew w w' g := by
  have hv := Vi.varint_length s.size
  go_enter Try.func50, Try.ntmps50
  go_wp2_with fail
  refine (num_any base g l s.size w (by omega) hw (by omega) hbase).mono ?_
  rintro e w1 ⟨rfl, hw1, hg1⟩
  have hsz := hg1.size
  go_wp2_with (with_reducible refine wpList_text rfl 9 55 5 _ rfl s rfl Try.underlying9 Try.underlying55 Try.underlying5 (by unfold maxLen; omega) ?_; intro v2 w2 hb2 hB2)
  have hw2 := hw1.below hB2
  have hg2 := hg1.trans (Grew.of_below hB2 hw1.lt)
  have hsz2 := hB2.size
  have hlen : s.data.toList.length = s.size := Array.length_toList
  refine (add_any base g _ v2 _ w2 hw2 hb2 (by rw [hlen, List.length_append]; omega) (by omega)).mono ?_
  rintro e w3 ⟨rfl, hw3, hg3⟩
  go_wp2
  go_ret
  exact ⟨rfl, by rw [← List.append_assoc]; exact hw3, hg2.trans hg3⟩

/-- one byte in a new block, and add -/
theorem wbyte_add (base g : Nat) (l : List UInt8) (b : UInt8) (w : World) (hw : WriterAt base w g l) (hbig : l.length ≤ 1000000000) (hbase : base ≤ w.heap.size) :
    Calls Try.prog 69 #[.pointer (some ⟨g, 0, none⟩), .slice (some ⟨w.heap.size, 0, none⟩) 1 1] (w.alloc (.cells #[.int .u8 (b.toNat : Int)] 5)) fun e w' =>
      e = .returned (.pointer (some ⟨g, 0, none⟩)) ∧ WriterAt base w' g (l ++ [b]) ∧ Grew w w' g := by
  have hb := bal (bre w) (.cells #[.int .u8 (b.toNat : Int)] 5)
  refine (add_any base g l _ [b] _ (hw.below hb) (bytes_one w b 5) (by simp; omega) (by have := hb.size; omega)).mono fun e w' ⟨h1, h2, h3⟩ => ⟨h1, h2, (Grew.of_below hb hw.lt).trans h3⟩

set_option maxRecDepth 10000 in
set_option maxHeartbeats 400000 in
theorem wbyte_any (base g : Nat) (l : List UInt8) (b : UInt8) (w : World) (hw : WriterAt base w g l) (hbig : l.length ≤ 1000000000) (hbase : base ≤ w.heap.size) :
    Calls Try.prog 49 #[.pointer (some ⟨g, 0, none⟩), .int .u8 b.toNat] w fun e w' =>
      e = .returned (.pointer (some ⟨g, 0, none⟩)) ∧ WriterAt base w' g (l ++ [b]) ∧ Grew w w' g := by
  go_enter Try.func49, Try.ntmps49
  go_wp2_with (go_at_call 69; refine (wbyte_add base g l b w hw hbig hbase).mono ?_; rintro e w1 ⟨rfl, hw1, hg1⟩)
  go_ret
  exact ⟨rfl, hw1, hg1⟩

set_option maxRecDepth 10000 in
set_option maxHeartbeats 400000 in
theorem wbytes_any (base g : Nat) (l : List UInt8) (w : World) (hw : WriterAt base w g l) (hbig : l.length ≤ 140737488355328) :
    Calls Try.prog 52 #[.pointer (some ⟨g, 0, none⟩)] w fun e w' =>
      ∃ v', e = .returned v' ∧ Own8 5 w.heap.size w' v' l ∧ Below w.heap.size w w' := by
  obtain ⟨v, hg, hown⟩ := hw
  have hcell : w.cell? ⟨g, 0, none⟩ = some v := cell_of_row w g 0 _ _ _ hg
  have hb := hown.bytes
  clear hg hown
  go_enter Try.func52, Try.ntmps52
  go_wp2_with (go_at_call 70; refine (clone_any v l w hb hbig).mono ?_; rintro e w1 ⟨v1, rfl, hown1, hb1⟩)
  go_ret
  exact ⟨_, rfl, hown1, hb1⟩
end Go.Proofs.Ytnbncjebmlicgaa
/- Walks: a reader of bytes: fail, wrong, take. -/
namespace Go.Proofs.Ytnbncjebmlicgaa
open Go.RowKit

/-- a reader, and what is left of its bytes; none: it isn't right any more, or there is no reader -/
def RdAt (B : Nat) (w : World) (v : Value) (o : Option (List UInt8)) : Prop :=
  (v = .pointer none ∧ o = none) ∨ ∃ g u, v = .pointer (some ⟨g, 0, none⟩) ∧ g < B ∧
    ((o = none ∧ w.heap[g]? = some (.cells #[.slice none 0 0, .bool true] 117 (0, 0))) ∨
     ∃ l, o = some l ∧ w.heap[g]? = some (.cells #[u, .bool false] 117 (0, 0)) ∧ Bytes w u l ∧ ∀ k i n c, l ≠ [] → u = .slice (some ⟨k, i, none⟩) n c → k < B)

/-- only the reader has turned -/
def Turned (w w' : World) (v : Value) : Prop := Only w w' (fun k => v = .pointer (some ⟨k, 0, none⟩))
theorem Turned.refl (w : World) (v : Value) : Turned w w v := Only.refl _ _
theorem Turned.trans {a b c : World} {v : Value} (h : Turned a b v) (k : Turned b c v) : Turned a c v := Only.trans h k fun _ _ h => h

/-- a reader's two fields, turned both -/
theorem set_both {w : World} {g T : Nat} {x y : Value} (h : w.heap[g]? = some (.cells #[x, y] T (0, 0))) (x' y' : Value) :
    ((w.setCell ⟨g, 1, none⟩ y').setCell ⟨g, 0, none⟩ x').heap[g]? = some (.cells #[x', y'] T (0, 0)) := by
  have h1 : (w.setCell ⟨g, 1, none⟩ y').heap[g]? = some (.cells #[x, y'] T (0, 0)) := heap_setCell_same w g 1 _ _ y' h
  exact heap_setCell_same _ g 0 _ _ x' h1
theorem set_first {w : World} {g T : Nat} {x y : Value} (h : w.heap[g]? = some (.cells #[x, y] T (0, 0))) (x' : Value) :
    (w.setCell ⟨g, 0, none⟩ x').heap[g]? = some (.cells #[x', y] T (0, 0)) := heap_setCell_same w g 0 _ _ x' h

theorem Turned.set (w : World) (g o : Nat) (u : Value) : Turned w (w.setCell ⟨g, o, none⟩ u) (.pointer (some ⟨g, 0, none⟩)) :=
  (Only.setCell w ⟨g, o, none⟩ u).mono fun i _ h => by simp only at h; rw [h]

set_option maxRecDepth 10000 in
set_option maxHeartbeats 400000 in
theorem fail_any (B : Nat) (v : Value) (o : Option (List UInt8)) (w : World) (hr : RdAt B w v o) :
    Calls Try.prog 73 #[v] w fun e w' => e = .returned (.tuple #[]) ∧ RdAt B w' v none ∧ Turned w w' v := by
  rcases hr with ⟨rfl, rfl⟩ | ⟨g, u, rfl, hgB, hr⟩
  · go_enter Try.func73, Try.ntmps73
    go_wp2
    refine bodyPost_end (results_none rfl _ _ _) rfl ?_
    exact ⟨rfl, .inl ⟨rfl, rfl⟩, Turned.refl _ _⟩
  · obtain ⟨x, b, hg⟩ : ∃ x b, w.heap[g]? = some (.cells #[x, .bool b] 117 (0, 0)) := by
      rcases hr with ⟨_, h⟩ | ⟨_, _, h, _⟩
      · exact ⟨_, _, h⟩
      · exact ⟨_, _, h⟩
    clear hr
    have hc0 : w.cell? ⟨g, 0, none⟩ = some x := cell_of_row w g 0 _ _ _ hg
    have hc1 : w.cell? ⟨g, 1, none⟩ = some (.bool b) := cell_of_row w g 1 _ _ _ hg
    have hf0 := frozen_of_row w g 0 _ _ hg
    have hf1 := frozen_of_row w g 1 _ _ hg
    have HG := Lib.hid hg
    clear hg
    go_enter Try.func73, Try.ntmps73
    go_wp2_with fail
    refine bodyPost_end (results_none rfl _ _ _) rfl ?_
    exact ⟨rfl, .inr ⟨g, undef, rfl, hgB, .inl ⟨rfl, set_both HG.out _ _⟩⟩, (Turned.set w g 1 _).trans (Turned.set _ g 0 _)⟩

set_option maxRecDepth 10000 in
set_option maxHeartbeats 400000 in
theorem wrong_any (B : Nat) (v : Value) (o : Option (List UInt8)) (w : World) (hr : RdAt B w v o) :
    Calls Try.prog 72 #[v] w fun e w' => e = .returned (.bool o.isNone) ∧ w' = w := by
  rcases hr with ⟨rfl, rfl⟩ | ⟨g, u, rfl, hgB, hr⟩
  · go_enter Try.func72, Try.ntmps72
    go_wp2
    go_ret
    exact ⟨rfl, rfl⟩
  · obtain ⟨x, hg⟩ : ∃ x, w.heap[g]? = some (.cells #[x, .bool o.isNone] 117 (0, 0)) := by
      rcases hr with ⟨rfl, h⟩ | ⟨_, rfl, h, _⟩
      · exact ⟨_, h⟩
      · exact ⟨_, h⟩
    clear hr
    have hc1 : w.cell? ⟨g, 1, none⟩ = some (.bool o.isNone) := cell_of_row w g 1 _ _ _ hg
    clear hg
    generalize o.isNone = b at *
    go_enter Try.func72, Try.ntmps72
    go_wp2
    go_ret
    exact ⟨rfl, rfl⟩

/-- a byte off the front -/
def Rd.take : Option (List UInt8) → UInt8 × Option (List UInt8)
  | some (b :: l) => (b, some l)
  | _ => (0, none)

set_option maxRecDepth 10000 in
set_option maxHeartbeats 400000 in
theorem take_any (B : Nat) (v : Value) (o : Option (List UInt8)) (w : World) (hr : RdAt B w v o) :
    Calls Try.prog 71 #[v] w fun e w' => e = .returned (.int .u8 (Rd.take o).1.toNat) ∧ RdAt B w' v (Rd.take o).2 ∧ Turned w w' v := by
  have HR := Lib.hid hr
  rcases hr with ⟨rfl, rfl⟩ | ⟨g, u, rfl, hgB, ⟨rfl, hg⟩ | ⟨l, rfl, hg, hb, hbB⟩⟩
  · go_enter Try.func71, Try.ntmps71
    go_wp2_with (refine (fail_any B _ none w HR.out).mono ?_; rintro e w1 ⟨rfl, hr1, ht1⟩)
    go_ret
    exact ⟨rfl, hr1, ht1⟩
  · have hc0 : w.cell? ⟨g, 0, none⟩ = some (.slice none 0 0) := cell_of_row w g 0 _ _ _ hg
    have hc1 : w.cell? ⟨g, 1, none⟩ = some (.bool true) := cell_of_row w g 1 _ _ _ hg
    clear hg
    go_enter Try.func71, Try.ntmps71
    go_wp2_with (refine (fail_any B _ none w HR.out).mono ?_; rintro e w1 ⟨rfl, hr1, ht1⟩)
    go_ret
    exact ⟨rfl, hr1, ht1⟩
  · cases l with
    | nil =>
      have hc0 : w.cell? ⟨g, 0, none⟩ = some u := cell_of_row w g 0 _ _ _ hg
      have hc1 : w.cell? ⟨g, 1, none⟩ = some (.bool false) := cell_of_row w g 1 _ _ _ hg
      obtain ⟨a, c, rfl, _⟩ := hb
      clear hg
      go_enter Try.func71, Try.ntmps71
      go_wp2_with (refine (fail_any B _ (some []) w HR.out).mono ?_; rintro e w1 ⟨rfl, hr1, ht1⟩)
      go_ret
      exact ⟨rfl, hr1, ht1⟩
    | cons b l =>
      have hb' := hb
      obtain ⟨a, c, rfl, hm, hcap, _, h4⟩ := hb
      rcases h4 with h4 | ⟨k, i, rfl, h4⟩
      · cases h4
      obtain ⟨y, hy, rfl⟩ := h4 0 b rfl
      rw [Nat.add_zero] at hy
      have hkB : k < B := hbB k i _ _ (by simp) rfl
      clear hbB
      have hkg : k ≠ g := by
        rintro rfl
        rw [cell_row hg] at hy
        rcases i with _ | _ | i
        · cases hy
        · cases hy
        · simp at hy
      have hc0 : w.cell? ⟨g, 0, none⟩ = some (.slice (some ⟨k, i, none⟩) (l.length + 1) c) := cell_of_row w g 0 _ _ _ hg
      have hc1 : w.cell? ⟨g, 1, none⟩ = some (.bool false) := cell_of_row w g 1 _ _ _ hg
      have hf0 := frozen_of_row w g 0 _ _ hg
      have HG := Lib.hid hg
      have HB := Lib.hid hb'
      clear hg hb' h4
      simp only [List.length_cons] at hc0 hm hcap
      have hln : 0 < l.length + 1 := by omega
      go_enter Try.func71, Try.ntmps71
      go_wp2_with fail
      all_goals
        go_ret
        refine ⟨rfl, .inr ⟨g, _, rfl, hgB, .inr ⟨l, rfl, set_first HG.out _, ?_, fun k' i' n' c' _ e => by cases e; exact hkB⟩⟩, Turned.set w g 0 _⟩
        refine Bytes.only (S := fun k => k = g) ?_ (Only.setCell w _ _) (fun g' o n c' hl e => ?_)
        · have h := HB.out.suffix 1 (by simp)
          simp only [List.length_cons, List.drop_succ_cons, List.drop_zero, Nat.add_sub_cancel, Option.map_some, Addr.add_mid] at h
          first
            | (rw [if_neg (by assumption)] at h; exact h)
            | (subst c; exact h)
            | exact h
        · cases e
          exact hkg
end Go.Proofs.Ytnbncjebmlicgaa
/- Walks: a reader's Num. -/
namespace Go.Proofs.Ytnbncjebmlicgaa
open Go.RowKit

/-- a number off the front, the i-th byte of it next, n so far -/
def Rd.dec : Nat → Nat → List UInt8 → Option (Nat × List UInt8)
  | _, _, [] => none
  | i, n, b :: l =>
    if (0 < i ∧ b.toNat = 0) ∨ 9 < i ∨ (i = 9 ∧ 1 < b.toNat % 128) then none
    else if b.toNat < 128 then some (n + b.toNat % 128 * 128 ^ i, l)
    else Rd.dec (i + 1) (n + b.toNat % 128 * 128 ^ i) l

/-- a number, at most so great -/
def Rd.num (most : Nat) (o : Option (List UInt8)) : Nat × Option (List UInt8) :=
  match o.bind (Rd.dec 0 0) with
  | some (n, l) => if n ≤ most then (n, some l) else (0, none)
  | none => (0, none)

theorem Rd.num_none {most : Nat} {o : Option (List UInt8)} (h : o.bind (Rd.dec 0 0) = none) : Rd.num most o = (0, none) := by unfold Rd.num; rw [h]

theorem low128 (b : UInt8) : bits .andNot .u8 (b.toNat : Int) 128 = ((b.toNat % 128 : Nat) : Int) := by
  have hB : b.toNat < 256 := b.toNat_lt
  rw [show (128 : Int) = ((128 : Nat) : Int) by rfl, u8_andNot_nat _ _ hB (by omega), show 255 - 128 = 2 ^ 7 - 1 by decide, Nat.and_two_pow_sub_one_eq_mod]

theorem dec_or (i m B : Nat) (hi : i ≤ 9) (hm : m < 128 ^ i) (hl : i < 9 ∨ B % 128 ≤ 1) :
    bits .or .u64 (m : Int) (IntKind.u64.wrap ((B : Int) % 128 * 2 ^ (7 * i))) = ((m + B % 128 * 128 ^ i : Nat) : Int) ∧ m + B % 128 * 128 ^ i < 18446744073709551616 ∧
      m + B % 128 * 128 ^ i < 128 ^ (i + 1) ∧ (B : Int) % 128 ≤ 18446744073709551615 / 2 ^ (7 * i) := by
  have hp : (128 : Nat) ^ i = 2 ^ (7 * i) := by rw [Nat.pow_mul]
  have e1 : (B : Int) % 128 * 2 ^ (7 * i) = ((B % 128 * 128 ^ i : Nat) : Int) := by rw [hp]; simp
  have h3 : (B : Int) % 128 ≤ 18446744073709551615 / 2 ^ (7 * i) := by
    obtain rfl | rfl | rfl | rfl | rfl | rfl | rfl | rfl | rfl | rfl : i = 0 ∨ i = 1 ∨ i = 2 ∨ i = 3 ∨ i = 4 ∨ i = 5 ∨ i = 6 ∨ i = 7 ∨ i = 8 ∨ i = 9 := by omega
    all_goals simp only [Nat.reduceMul, Int.reducePow, Int.reduceDiv]; omega
  have h4 : m + B % 128 * 128 ^ i < 18446744073709551616 := by
    obtain rfl | rfl | rfl | rfl | rfl | rfl | rfl | rfl | rfl | rfl : i = 0 ∨ i = 1 ∨ i = 2 ∨ i = 3 ∨ i = 4 ∨ i = 5 ∨ i = 6 ∨ i = 7 ∨ i = 8 ∨ i = 9 := by omega
    all_goals simp only [Nat.reducePow] at *; omega
  refine ⟨?_, h4, ?_, h3⟩
  · rw [e1, IntKind.wrap_u64]
    have hlt : B % 128 * 128 ^ i < 18446744073709551616 := by omega
    have e2 : ((B % 128 * 128 ^ i : Nat) : Int) % 18446744073709551616 = ((B % 128 * 128 ^ i : Nat) : Int) := by omega
    rw [e2, bits_or_u64_nat _ _ (by omega) hlt]
    congr 1
    rw [hp] at hm ⊢
    rw [Nat.or_comm, Nat.mul_comm, ← Nat.two_pow_add_eq_or_of_lt hm, Nat.add_comm]
  · rw [Nat.pow_succ]
    have h5 : B % 128 * 128 ^ i ≤ 127 * 128 ^ i := Nat.mul_le_mul_right _ (by omega)
    omega

set_option maxRecDepth 10000 in
set_option maxHeartbeats 800000 in
theorem rnum_any (B : Nat) (v : Value) (o : Option (List UInt8)) (most : Nat) (w : World) (hr : RdAt B w v o) :
    Calls Try.prog 54 #[v, .int .u64 most] w fun e w' =>
      e = .returned (.int .u64 (Rd.num most o).1) ∧ RdAt B w' v (Rd.num most o).2 ∧ Turned w w' v := by
  go_enter Try.func54, Try.ntmps54
  go_wp2
  go_loopw [5, 6] (fun c s wr => ∃ (i m : Nat) (o' : Option (List UInt8)), c = .int .u64 m ∧ s = .int .i64 (7 * i : Nat) ∧ i ≤ 10 ∧ m < 18446744073709551616 ∧ Hid (m < 128 ^ i) ∧ Hid (o'.bind (Rd.dec i m) = o.bind (Rd.dec 0 0)) ∧ RdAt B wr v o' ∧ Turned w wr v) (fun _ s _ => 77 - (intOf s).toNat)
  case atStart => exact ⟨0, 0, o, rfl, rfl, by omega, by omega, Lib.hid (by decide), Lib.hid rfl, hr, Turned.refl _ _⟩
  case round =>
    obtain ⟨i, m, o', rfl, rfl, hi, hm64, HM, HD, hro, hto⟩ := hrel
    by_cases hbad : ∃ b l, o' = some (b :: l)
    · obtain ⟨b, l, rfl⟩ := hbad
      have htk := take_any B v (some (b :: l)) wr hro
      have HT := Lib.hid htk
      clear htk hro
      have hlow := low128 b
      have hB : b.toNat < 256 := b.toNat_lt
      have hdec : (some (b :: l) : Option (List UInt8)).bind (Rd.dec i m) = _ := rfl
      by_cases hc1 : (0 < i ∧ b.toNat = 0) ∨ 9 < i ∨ (i = 9 ∧ 1 < b.toNat % 128)
      · have hn2 : o.bind (Rd.dec 0 0) = none := by rw [← HD.out]; show Rd.dec i m (b :: l) = none; rw [Rd.dec, if_pos hc1]
        have HN := Lib.hid (Rd.num_none (most := most) hn2)
        clear hn2 HD HM hdec
        have key : ∀ C : Prop, C → True := fun _ _ => trivial
        rcases hc1 with ⟨h1, h2⟩ | h1 | ⟨rfl, h2⟩
        · go_wp2_with first
            | (go_at_call 71; refine HT.out.mono ?_; rintro e w1 ⟨rfl, hr1, ht1⟩; simp only [Rd.take] at hr1; simp only [Rd.take])
            | (go_at_call 72; refine (wrong_any B v (some l) _ hr1).mono ?_; rintro e w2 ⟨rfl, rfl⟩; simp only [Option.isNone])
            | (go_at_call 73; refine (fail_any B v (some l) _ hr1).mono ?_; rintro e w3 ⟨rfl, hr3, ht3⟩)
          go_ret
          rw [HN.out]
          exact ⟨rfl, hr3, hto.trans (ht1.trans ht3)⟩
        · go_wp2_with first
            | (go_at_call 71; refine HT.out.mono ?_; rintro e w1 ⟨rfl, hr1, ht1⟩; simp only [Rd.take] at hr1; simp only [Rd.take])
            | (go_at_call 72; refine (wrong_any B v (some l) _ hr1).mono ?_; rintro e w2 ⟨rfl, rfl⟩; simp only [Option.isNone])
            | (go_at_call 73; refine (fail_any B v (some l) _ hr1).mono ?_; rintro e w3 ⟨rfl, hr3, ht3⟩)
          all_goals
            go_ret
            rw [HN.out]
            exact ⟨rfl, hr3, hto.trans (ht1.trans ht3)⟩
        · go_wp2_with first
            | (go_at_call 71; refine HT.out.mono ?_; rintro e w1 ⟨rfl, hr1, ht1⟩; simp only [Rd.take] at hr1; simp only [Rd.take])
            | (go_at_call 72; refine (wrong_any B v (some l) _ hr1).mono ?_; rintro e w2 ⟨rfl, rfl⟩; simp only [Option.isNone])
            | (go_at_call 73; refine (fail_any B v (some l) _ hr1).mono ?_; rintro e w3 ⟨rfl, hr3, ht3⟩)
          all_goals
            go_ret
            rw [HN.out]
            exact ⟨rfl, hr3, hto.trans (ht1.trans ht3)⟩
      · have hi9 : i ≤ 9 := by omega
        have hz : i = 0 ∨ b.toNat ≠ 0 := by omega
        have hl : i < 9 ∨ b.toNat % 128 ≤ 1 := by omega
        clear hdec
        obtain ⟨hor, hn64, hn128, hsh⟩ := dec_or i m b.toNat hi9 HM.out hl
        have hz0 : (i = 0 ∧ bits .or .u64 (m : Int) ((b.toNat : Int) % 128) = ((m + b.toNat % 128 * 128 ^ i : Nat) : Int)) ∨ (0 < i ∧ ((b.toNat : Int) == 0) = false) := by
          rcases Nat.eq_zero_or_pos i with h | h
          · refine .inl ⟨h, ?_⟩
            rw [← hor, h, IntKind.wrap_u64]
            congr 1
            simp only [Nat.mul_zero, Int.pow_zero, Int.mul_one]
            omega
          · exact .inr ⟨h, by simp; omega⟩
        by_cases hlast : b.toNat < 128
        · have hd : o.bind (Rd.dec 0 0) = some (m + b.toNat % 128 * 128 ^ i, l) := by
            rw [← HD.out]; show Rd.dec i m (b :: l) = _; rw [Rd.dec, if_neg hc1, if_pos hlast]
          have HN := Lib.hid hd
          clear hd HD HM hc1 hn128 hl
          generalize m + b.toNat % 128 * 128 ^ i = n at *
          by_cases hmn : n ≤ most
          · have hN : Rd.num most o = (n, some l) := by unfold Rd.num; rw [HN.out]; simp only; rw [if_pos hmn]
            have HV := Lib.hid hN
            clear hN HN
            rcases hz0 with hz1 | ⟨hz1, hz2⟩
            all_goals go_wp2_with first
              | (go_at_call 71; refine HT.out.mono ?_; rintro e w1 ⟨rfl, hr1, ht1⟩; simp only [Rd.take] at hr1; simp only [Rd.take])
              | (go_at_call 72; refine (wrong_any B v (some l) _ hr1).mono ?_; rintro e w2 ⟨rfl, rfl⟩; simp only [Option.isNone])
              | (go_at_call 73; refine (fail_any B v (some l) _ hr1).mono ?_; rintro e w3 ⟨rfl, hr3, ht3⟩)
            all_goals
              go_ret
              rw [HV.out]
              exact ⟨rfl, hr1, hto.trans ht1⟩
          · have hN : Rd.num most o = (0, none) := by unfold Rd.num; rw [HN.out]; simp only; rw [if_neg hmn]
            have HV := Lib.hid hN
            clear hN HN
            rcases hz0 with hz1 | ⟨hz1, hz2⟩
            all_goals go_wp2_with first
              | (go_at_call 71; refine HT.out.mono ?_; rintro e w1 ⟨rfl, hr1, ht1⟩; simp only [Rd.take] at hr1; simp only [Rd.take])
              | (go_at_call 72; refine (wrong_any B v (some l) _ hr1).mono ?_; rintro e w2 ⟨rfl, rfl⟩; simp only [Option.isNone])
              | (go_at_call 73; refine (fail_any B v (some l) _ hr1).mono ?_; rintro e w3 ⟨rfl, hr3, ht3⟩)
            all_goals
              go_ret
              rw [HV.out]
              exact ⟨rfl, hr3, hto.trans (ht1.trans ht3)⟩
        · have hd : (some l : Option (List UInt8)).bind (Rd.dec (i + 1) (m + b.toNat % 128 * 128 ^ i)) = o.bind (Rd.dec 0 0) := by
            rw [← HD.out]; show _ = Rd.dec i m (b :: l); rw [Rd.dec, if_neg hc1, if_neg hlast]; rfl
          have HN := Lib.hid hd
          have HP := Lib.hid hn128
          clear hd HD HM hc1 hn128 hl
          generalize m + b.toNat % 128 * 128 ^ i = n at *
          rcases hz0 with hz1 | ⟨hz1, hz2⟩
          all_goals go_wp2_with first
            | (go_at_call 71; refine HT.out.mono ?_; rintro e w1 ⟨rfl, hr1, ht1⟩; simp only [Rd.take] at hr1; simp only [Rd.take])
            | (go_at_call 72; refine (wrong_any B v (some l) _ hr1).mono ?_; rintro e w2 ⟨rfl, rfl⟩; simp only [Option.isNone])
            | (go_at_call 73; refine (fail_any B v (some l) _ hr1).mono ?_; rintro e w3 ⟨rfl, hr3, ht3⟩)
          all_goals
            go_roundw
            case rel => exact ⟨i + 1, n, some l, rfl, by go_num, by omega, hn64, HP, HN, hr1, hto.trans ht1⟩
            case measure => simp [intOf]; omega
    · have hn : Rd.take o' = (0, none) ∧ o'.bind (Rd.dec i m) = none := by
        rcases o' with _ | _ | ⟨b, l⟩
        · exact ⟨rfl, rfl⟩
        · exact ⟨rfl, rfl⟩
        · exact absurd ⟨b, l, rfl⟩ hbad
      have hn2 : o.bind (Rd.dec 0 0) = none := HD.out.symm.trans hn.2
      have htk := take_any B v o' wr hro
      rw [hn.1] at htk
      have HT := Lib.hid htk
      have HN := Lib.hid (Rd.num_none (most := most) hn2)
      clear htk hro hn hn2 hbad HD HM
      go_wp2_with first
        | (go_at_call 71; refine HT.out.mono ?_; rintro e w1 ⟨rfl, hr1, ht1⟩)
        | (go_at_call 72; refine (wrong_any B v none _ hr1).mono ?_; rintro e w2 ⟨rfl, rfl⟩)
        | (go_at_call 73; refine (fail_any B v none _ hr1).mono ?_; rintro e w3 ⟨rfl, hr3, ht3⟩)
      go_ret
      rw [HN.out]
      exact ⟨rfl, hr3, hto.trans (ht1.trans ht3)⟩
end Go.Proofs.Ytnbncjebmlicgaa
/- Walks: a reader's Int, Text, Byte, Bool, Left, Done; Read. -/
namespace Go.Proofs.Ytnbncjebmlicgaa
open Go.RowKit

/-- a number as an int -/
def zag (n : Nat) : Int := if n % 2 = 1 then -((n / 2 : Nat) : Int) - 1 else ((n / 2 : Nat) : Int)
def Rd.int (o : Option (List UInt8)) : Int × Option (List UInt8) := (zag (Rd.num 18446744073709551615 o).1, (Rd.num 18446744073709551615 o).2)
def Rd.text (most : Nat) (o : Option (List UInt8)) : List UInt8 × Option (List UInt8) :=
  match Rd.num most o with
  | (n, some l) => if n ≤ l.length then (l.take n, some (l.drop n)) else ([], none)
  | (_, none) => ([], none)
def Rd.bool (o : Option (List UInt8)) : Bool × Option (List UInt8) := (decide ((Rd.take o).1.toNat = 1), if 1 < (Rd.take o).1.toNat then none else (Rd.take o).2)
def Rd.left (o : Option (List UInt8)) : Nat := (o.map List.length).getD 0

theorem Rd.num_lt (most : Nat) (o : Option (List UInt8)) : (Rd.num most o).1 ≤ most := by
  unfold Rd.num
  split
  · split
    · assumption
    · exact Nat.zero_le _
  · exact Nat.zero_le _

theorem zag_bits (n : Nat) (hn : n ≤ 18446744073709551615) : bits .xor .i64 ((n : Int) / 2) (wrap64 (-wrap64 (bits .and .u64 (n : Int) 1))) = zag n := by
  have h1 : bits .and .u64 (n : Int) 1 = ((n % 2 : Nat) : Int) := by
    rw [show (1 : Int) = ((1 : Nat) : Int) by rfl, bits_and_u64_nat _ _ (by omega) (by omega), nat_mask1]
  have h2 : (BitVec.ofInt 64 ((n : Int) / 2)).toNat = n / 2 := by
    rw [show (n : Int) / 2 = ((n / 2 : Nat) : Int) by omega, BitVec.ofInt_natCast, BitVec.toNat_ofNat]; exact Nat.mod_eq_of_lt (by omega)
  rw [h1]
  unfold zag
  rcases Nat.mod_two_eq_zero_or_one n with h | h
  · rw [h, if_neg (by omega)]
    show IntKind.i64.wrap ((BitVec.ofInt 64 ((n : Int) / 2) ^^^ BitVec.ofInt 64 (wrap64 (-wrap64 ((0 : Nat) : Int)))).toNat : Int) = _
    rw [BitVec.toNat_xor, h2, show (BitVec.ofInt 64 (wrap64 (-wrap64 ((0 : Nat) : Int)))).toNat = 0 by first | rfl | simp [wrap64], Nat.xor_zero]
    rw [IntWalk.i64_left]
    unfold wrap64
    omega
  · rw [h, if_pos rfl]
    show IntKind.i64.wrap ((BitVec.ofInt 64 ((n : Int) / 2) ^^^ BitVec.ofInt 64 (wrap64 (-wrap64 ((1 : Nat) : Int)))).toNat : Int) = _
    rw [BitVec.toNat_xor, h2, show (BitVec.ofInt 64 (wrap64 (-wrap64 ((1 : Nat) : Int)))).toNat = 18446744073709551615 by first | rfl | simp [wrap64], not64 _ (by omega)]
    rw [IntWalk.i64_left]
    unfold wrap64
    omega

set_option maxRecDepth 10000 in
set_option maxHeartbeats 400000 in
theorem rint_any (B : Nat) (v : Value) (o : Option (List UInt8)) (w : World) (hr : RdAt B w v o) :
    Calls Try.prog 57 #[v] w fun e w' => e = .returned (.int .i64 (Rd.int o).1) ∧ RdAt B w' v (Rd.int o).2 ∧ Turned w w' v := by
  have hn := rnum_any B v o 18446744073709551615 w hr
  have hlt := Rd.num_lt 18446744073709551615 o
  unfold Rd.int
  generalize (Rd.num 18446744073709551615 o).1 = n at *
  generalize (Rd.num 18446744073709551615 o).2 = o' at *
  have HN := Lib.hid hn
  clear hn
  go_enter Try.func57, Try.ntmps57
  go_wp2_with (go_at_call 54; refine HN.out.mono ?_; rintro e w1 ⟨rfl, hr1, ht1⟩)
  rw [zag_bits n hlt]
  go_ret
  exact ⟨rfl, hr1, ht1⟩

set_option maxRecDepth 10000 in
set_option maxHeartbeats 400000 in
theorem rbyte_any (B : Nat) (v : Value) (o : Option (List UInt8)) (w : World) (hr : RdAt B w v o) :
    Calls Try.prog 55 #[v] w fun e w' => e = .returned (.int .u8 (Rd.take o).1.toNat) ∧ RdAt B w' v (Rd.take o).2 ∧ Turned w w' v := by
  go_enter Try.func55, Try.ntmps55
  go_wp2_with (go_at_call 71; refine (take_any B v o w hr).mono ?_; rintro e w1 ⟨rfl, hr1, ht1⟩)
  go_ret
  exact ⟨rfl, hr1, ht1⟩

set_option maxRecDepth 10000 in
set_option maxHeartbeats 400000 in
theorem left_any (B : Nat) (v : Value) (o : Option (List UInt8)) (w : World) (hr : RdAt B w v o) :
    Calls Try.prog 58 #[v] w fun e w' => e = .returned (.int .i64 (Rd.left o)) ∧ w' = w := by
  rcases hr with ⟨rfl, rfl⟩ | ⟨g, u, rfl, hgB, ⟨rfl, hg⟩ | ⟨l, rfl, hg, hb, _⟩⟩
  · go_enter Try.func58, Try.ntmps58
    go_wp2
    go_ret
    exact ⟨rfl, rfl⟩
  · have hc0 : w.cell? ⟨g, 0, none⟩ = some (.slice none 0 0) := cell_of_row w g 0 _ _ _ hg
    clear hg
    go_enter Try.func58, Try.ntmps58
    go_wp2
    go_ret
    exact ⟨rfl, rfl⟩
  · have hc0 : w.cell? ⟨g, 0, none⟩ = some u := cell_of_row w g 0 _ _ _ hg
    obtain ⟨a, c, rfl, _⟩ := hb
    clear hg
    go_enter Try.func58, Try.ntmps58
    go_wp2
    go_ret
    exact ⟨rfl, rfl⟩

set_option maxRecDepth 10000 in
set_option maxHeartbeats 400000 in
theorem done_any (B : Nat) (v : Value) (o : Option (List UInt8)) (w : World) (hr : RdAt B w v o) :
    Calls Try.prog 59 #[v] w fun e w' => e = .returned (.int .i64 (if o = some [] then 0 else 2)) ∧ w' = w := by
  have HR := Lib.hid hr
  rcases hr with ⟨rfl, rfl⟩ | ⟨g, u, rfl, hgB, ⟨rfl, hg⟩ | ⟨l, rfl, hg, hb, _⟩⟩
  · go_enter Try.func59, Try.ntmps59
    go_wp2_with (go_at_call 72; refine (wrong_any B _ _ _ HR.out).mono ?_; rintro e w2 ⟨rfl, rfl⟩; simp only [Option.isNone])
    go_ret
    exact ⟨rfl, rfl⟩
  · clear hg
    go_enter Try.func59, Try.ntmps59
    go_wp2_with (go_at_call 72; refine (wrong_any B _ _ _ HR.out).mono ?_; rintro e w2 ⟨rfl, rfl⟩; simp only [Option.isNone])
    go_ret
    exact ⟨rfl, rfl⟩
  · have hc0 : w.cell? ⟨g, 0, none⟩ = some u := cell_of_row w g 0 _ _ _ hg
    obtain ⟨a, c, rfl, _⟩ := hb
    clear hg
    cases l
    all_goals
      go_enter Try.func59, Try.ntmps59
      go_wp2_with (go_at_call 72; refine (wrong_any B _ _ _ HR.out).mono ?_; rintro e w2 ⟨rfl, rfl⟩; simp only [Option.isNone])
      go_ret
      exact ⟨rfl, rfl⟩

theorem RdAt.nil_some {B : Nat} {w : World} {l : List UInt8} (h : RdAt B w (.pointer none) (some l)) : False := by
  rcases h with ⟨_, h⟩ | ⟨g, u, h, _⟩
  · cases h
  · cases h

theorem RdAt.fields {B : Nat} {w : World} {g : Nat} {l : List UInt8} (h : RdAt B w (.pointer (some ⟨g, 0, none⟩)) (some l)) :
    ∃ a c, w.cell? ⟨g, 0, none⟩ = some (.slice a l.length c) ∧ l.length ≤ 9223372036854775807 ∧ l.length ≤ c ∧ w.frozen? ⟨g, 0, none⟩ = false ∧ Hid (w.heap[g]? = some (.cells #[.slice a l.length c, .bool false] 117 (0, 0))) ∧
      Hid (Bytes w (.slice a l.length c) l) ∧ Hid (∀ k i n c', l ≠ [] → Value.slice a l.length c = .slice (some ⟨k, i, none⟩) n c' → k < B) := by
  rcases h with ⟨h, _⟩ | ⟨g', u, h, _, ⟨h', _⟩ | ⟨l', h', hg, hb, hB⟩⟩
  · cases h
  · cases h'
  · cases h
    cases h'
    have hb' := hb
    obtain ⟨a, c, rfl, h1, h2, _⟩ := hb
    exact ⟨a, c, cell_of_row w g 0 _ _ _ hg, by unfold maxLen at h1; omega, h2, frozen_of_row w g 0 _ _ hg, Lib.hid hg, Lib.hid hb', Lib.hid hB⟩

theorem bytes_lt {w : World} {k i n c : Nat} {l : List UInt8} (h : Bytes w (.slice (some ⟨k, i, none⟩) n c) l) (hl : l ≠ []) : k < w.heap.size := by
  obtain ⟨a', c', e, _, _, _, h | ⟨g, o, ha, h⟩⟩ := h
  · exact absurd h hl
  · cases e
    cases ha
    cases l with
    | nil => exact absurd rfl hl
    | cons b l =>
      obtain ⟨u, hu, _⟩ := h 0 b rfl
      exact block_lt_of_cell hu

theorem reader_ne {w : World} {g k i n c T : Nat} {b : Bool} {l : List UInt8} (hg : w.heap[g]? = some (.cells #[.slice (some ⟨k, i, none⟩) n c, .bool b] T (0, 0)))
    (h : Bytes w (.slice (some ⟨k, i, none⟩) n c) l) (hl : l ≠ []) : k ≠ g := by
  rintro rfl
  obtain ⟨a', c', e, _, _, _, h | ⟨g, o, ha, h⟩⟩ := h
  · exact absurd h hl
  · cases e
    cases ha
    cases l with
    | nil => exact absurd rfl hl
    | cons x l =>
      obtain ⟨y, hy, rfl⟩ := h 0 x rfl
      rw [cell_row hg] at hy
      rcases i with _ | _ | i
      · cases hy
      · cases hy
      · simp at hy

theorem rd_drop {B : Nat} {w : World} {g : Nat} {a : Option Addr} {c : Nat} {l : List UInt8} (hgB : g < B) (hg : w.heap[g]? = some (.cells #[.slice a l.length c, .bool false] 117 (0, 0)))
    (hb : Bytes w (.slice a l.length c) l) (hB : ∀ k i n c', l ≠ [] → Value.slice a l.length c = .slice (some ⟨k, i, none⟩) n c' → k < B) (m : Nat) (hm : m ≤ l.length) :
    RdAt B (w.setCell ⟨g, 0, none⟩ (.slice (if c = m then a else a.map (·.add m)) (l.length - m) (c - m))) (.pointer (some ⟨g, 0, none⟩)) (some (l.drop m)) := by
  have hs := hb.suffix m hm
  have key : ∀ k i n c', l.drop m ≠ [] → Value.slice (if c = m then a else a.map (·.add m)) (l.length - m) (c - m) = .slice (some ⟨k, i, none⟩) n c' → k < B ∧ k ≠ g := by
    intro k i n c' hl e
    have hl0 : l ≠ [] := fun h => hl (by simp [h])
    have hlt : m < l.length := by
      rcases Nat.lt_or_ge m l.length with h | h
      · exact h
      · exact absurd (List.drop_eq_nil_of_le h) hl
    obtain ⟨a', c2, e2, _, hc, _, h | ⟨g0, o0, ha, _⟩⟩ := id hb
    · exact absurd h hl0
    · cases e2
      subst ha
      rw [if_neg (by omega), Option.map_some, Addr.add_mid] at e
      cases e
      exact ⟨hB _ _ _ _ hl0 rfl, reader_ne hg hb hl0⟩
  exact .inr ⟨g, _, rfl, hgB, .inr ⟨_, rfl, set_first hg _, Bytes.only (S := fun k => k = g) hs (Only.setCell w _ _) (fun k i n c' hl e => (key k i n c' hl e).2), fun k i n c' hl e => (key k i n c' hl e).1⟩⟩

set_option maxRecDepth 10000 in
set_option maxHeartbeats 400000 in
theorem read_any (p : Value) (l : List UInt8) (w : World) (hp : Bytes w p l) (hbig : l.length ≤ 140737488355328) :
    Calls Try.prog 53 #[p] w fun e w' => ∃ v, e = .returned v ∧ RdAt w'.heap.size w' v (some l) ∧ Below w.heap.size w w' ∧ ∀ k, v = .pointer (some ⟨k, 0, none⟩) → w.heap.size ≤ k := by
  go_enter Try.func53, Try.ntmps53
  go_wp2_with (go_at_call 70; refine (clone_any p l w hp hbig).mono ?_; rintro e w1 ⟨v1, rfl, hown1, hb1⟩; obtain ⟨a1, n1, c1, rfl⟩ := hown1.isSlice)
  go_ret
  have hb2 := bal (bre w1) (.cells #[.slice a1 n1 c1, .bool false] 117)
  have hg := heap_alloc_new w1 (.cells #[.slice a1 n1 c1, .bool false] 117)
  have hlt := hb2.size
  refine ⟨_, rfl, .inr ⟨w1.heap.size, _, rfl, by simp, .inr ⟨l, rfl, hg, hown1.bytes.below hb2, fun k i n c hl e => ?_⟩⟩, btr hb1 hb2, fun k e => by cases e; exact hb1.size⟩
  cases e
  exact Nat.lt_of_lt_of_le (bytes_lt hown1.bytes hl) hlt

set_option maxRecDepth 10000 in
set_option maxHeartbeats 400000 in
theorem rtext_any (B : Nat) (v : Value) (o : Option (List UInt8)) (most : Nat) (w : World) (hm : most < 9223372036854775808) (hr : RdAt B w v o) :
    Calls Try.prog 56 #[v, .int .i64 most] w fun e w' => e = .returned (.string (strOf (Rd.text most o).1)) ∧ RdAt B w' v (Rd.text most o).2 ∧ Turned w w' v := by
  have hn := rnum_any B v o most w hr
  have hlt := Rd.num_lt most o
  unfold Rd.text
  generalize Rd.num most o = r at *
  obtain ⟨n, o'⟩ := r
  simp only at hn hlt
  have HN := Lib.hid hn
  clear hn
  cases o' with
  | none =>
    go_enter Try.func56, Try.ntmps56
    go_wp2_with first
      | (go_at_call 54; refine HN.out.mono ?_; rintro e w1 ⟨rfl, hr1, ht1⟩)
      | (go_at_call 72; refine (wrong_any B _ _ _ hr1).mono ?_; rintro e w2 ⟨rfl, rfl⟩; simp only [Option.isNone])
      | (go_at_call 73; refine (fail_any B v _ _ hr1).mono ?_; rintro e w3 ⟨rfl, hr3, ht3⟩)
    go_ret
    exact ⟨rfl, hr3, ht1.trans ht3⟩
  | some l =>
    rcases hr with ⟨rfl, rfl⟩ | ⟨g, u0, rfl, hgB, _⟩
    · go_enter Try.func56, Try.ntmps56
      go_wp2_with (go_at_call 54; refine HN.out.mono ?_; rintro e w1 ⟨rfl, hr1, ht1⟩; exact hr1.nil_some.elim)
    by_cases hnl : n ≤ l.length
    · simp only [if_pos hnl]
      go_enter Try.func56, Try.ntmps56
      go_wp2_with first
        | (go_at_call 54; refine HN.out.mono ?_; rintro e w1 ⟨rfl, hr1, ht1⟩)
        | (go_at_call 72; refine (wrong_any B _ _ _ hr1).mono ?_; rintro e w2 ⟨rfl, rfl⟩; simp only [Option.isNone]; obtain ⟨a, c, hc0, hml, hcap, hf0, HG, HB, HBB⟩ := hr1.fields; have hs := run_str (P := Try.prog) w2 55 9 5 _ _ (SliceOf.firsts HB.out n hnl) Try.underlying55 Try.underlying5 Try.underlying9)
      all_goals
        go_ret
        refine ⟨rfl, ?_, ht1.trans (Turned.set w2 g 0 _)⟩
        have hrd := rd_drop hgB HG.out HB.out HBB.out n hnl
        first
          | exact hrd
          | (rw [if_neg (by assumption)] at hrd; exact hrd)
          | (subst c; rw [if_pos rfl, Nat.sub_self] at hrd; exact hrd)
    · simp only [if_neg hnl]
      go_enter Try.func56, Try.ntmps56
      go_wp2_with first
        | (go_at_call 54; refine HN.out.mono ?_; rintro e w1 ⟨rfl, hr1, ht1⟩)
        | (go_at_call 72; refine (wrong_any B _ _ _ hr1).mono ?_; rintro e w2 ⟨rfl, rfl⟩; simp only [Option.isNone]; obtain ⟨a, c, hc0, hml, hcap, hf0, HG, HB, HBB⟩ := hr1.fields)
        | (go_at_call 73; refine (fail_any B _ _ _ hr1).mono ?_; rintro e w3 ⟨rfl, hr3, ht3⟩)
      go_ret
      exact ⟨rfl, hr3, ht1.trans ht3⟩
end Go.Proofs.Ytnbncjebmlicgaa
/- Plain: how many bytes a number has; what is read of them. -/
namespace Go.Proofs.Ytnbncjebmlicgaa
open Go.RowKit

theorem zag_zig (n : Int) : zag (zig n) = n := by
  unfold zag zig
  split <;> split <;> omega

theorem ofNat_toNat {n : Nat} (h : n < 256) : (UInt8.ofNat n).toNat = n := UInt8.toNat_ofNat_of_lt' (show n < UInt8.size by simp [UInt8.size]; omega)

theorem dec_varint (n : Nat) : ∀ i acc r, i ≤ 9 → (i = 0 ∨ 0 < n) → n * 128 ^ i < 18446744073709551616 → Rd.dec i acc (Vi.varint n ++ r) = some (acc + n * 128 ^ i, r) := by
  induction n using Nat.strongRecOn with
  | _ n ih =>
    intro i acc r hi h0 hlt
    have hp : 0 < 128 ^ i := Nat.pow_pos (by omega)
    have hn64 : n < 18446744073709551616 := Nat.lt_of_le_of_lt (Nat.le_mul_of_pos_right n hp) hlt
    have h9 : i = 9 → n ≤ 1 := by
      rintro rfl
      simp only [Nat.reducePow] at hlt
      omega
    by_cases h : n < 128
    · rw [Vi.varint_small h]
      simp only [List.singleton_append, Rd.dec]
      rw [ofNat_toNat (by omega), if_neg (by omega), if_pos h, Nat.mod_eq_of_lt h]
    · rw [Vi.varint_step (by omega) hn64]
      simp only [List.cons_append, Rd.dec]
      rw [ofNat_toNat (by omega), if_neg (by omega), if_neg (by omega)]
      have e : (n % 128 + 128) % 128 = n % 128 := by omega
      have e2 : n % 128 * 128 ^ i + n / 128 * 128 ^ (i + 1) = n * 128 ^ i := by
        rw [Nat.pow_succ, Nat.mul_comm (128 ^ i) 128, ← Nat.mul_assoc, ← Nat.add_mul]
        congr 1; omega
      rw [e, ih (n / 128) (by omega) (i + 1) _ r (by omega) (.inr (by omega)) (by omega), Nat.add_assoc, e2]

theorem num_varint (n most : Nat) (r : List UInt8) (hn : n < 18446744073709551616) : Rd.num most (some (Vi.varint n ++ r)) = if n ≤ most then (n, some r) else (0, none) := by
  unfold Rd.num
  rw [Option.bind_some, dec_varint n 0 0 r (by omega) (.inl rfl) (by omega)]
  simp

/-- how many bytes stand behind the first one -/
def moreOf (q : Nat) : Nat := if q = 0 then 0 else (Vi.varint q).length

theorem len_more {n : Nat} (hn : n < 18446744073709551616) : (Vi.varint n).length = 1 + moreOf (n / 128) := by
  unfold moreOf
  by_cases h : n < 128
  · rw [Vi.varint_small h, if_pos (by omega)]; rfl
  · rw [Vi.varint_step (by omega) hn, if_neg (by omega), List.length_cons, Nat.add_comm]

theorem more_step {q : Nat} (h0 : 0 < q) (hq : q < 18446744073709551616) : moreOf q = 1 + moreOf (q / 128) := by
  rw [← len_more hq]; unfold moreOf; rw [if_neg (by omega)]

theorem len_mono (m : Nat) : ∀ n, n ≤ m → m < 18446744073709551616 → (Vi.varint n).length ≤ (Vi.varint m).length := by
  induction m using Nat.strongRecOn with
  | _ m ih =>
    intro n hnm hm
    by_cases h : n < 128
    · rw [Vi.varint_small h]; exact (Vi.varint_length m).1
    · rw [Vi.varint_step (by omega) (by omega), Vi.varint_step (by omega) hm, List.length_cons, List.length_cons]
      have := ih (m / 128) (by omega) (n / 128) (by omega) (by omega)
      omega

/-! ### a writer that has nothing yet -/
def NilW (w : World) (g : Nat) : Prop := w.heap[g]? = some (.cells #[.slice none 0 0] 91 (0, 0))
theorem NilW.lt {w : World} {g : Nat} (h : NilW w g) : g < w.heap.size := (Array.getElem?_eq_some_iff.1 h).1
theorem NilW.at {w : World} {g : Nat} (h : NilW w g) (base : Nat) : WriterAt base w g [] := ⟨_, h, Own8.nil _ _ _⟩
theorem NilW.slot {w : World} {g : Nat} (h : NilW w g) : slotBlock w g = none := slotBlock_at h
theorem NilW.below {w w' : World} {g : Nat} (h : NilW w g) (hb : Below w.heap.size w w') : NilW w' g := (hb.block g h.lt).trans h
theorem NilW.only {w w' : World} {g : Nat} {S : Nat → Prop} (h : NilW w g) (ho : Only w w' S) (hs : ¬ S g) : NilW w' g := (ho.block g h.lt hs).trans h
theorem NilW.new (w : World) (n : Nat) (hn : n = w.heap.size) : NilW (w.alloc (.cells #[.slice none 0 0] 91)) n := by subst hn; exact heap_alloc_new w _
theorem Grew.nil {w w' : World} {g : Nat} (h : Grew w w' g) (hn : NilW w g) : Only w w' (fun k => k = g) :=
  h.only.mono fun i _ hi => by
    rcases hi with hi | hi
    · exact hi
    · rw [hn.slot] at hi; cases hi

theorem bytes_slot {w w' : World} {g : Nat} {v : Value} {l : List UInt8} {T : Nat} (hx : w.heap[g]? = some (.cells #[.slice none 0 0] T (0, 0))) (ho : Only w w' (fun k => k = g)) (hv : Bytes w v l) : Bytes w' v l := by
  refine hv.only ho fun k i n c hl e hk => ?_
  subst hk
  subst e
  obtain ⟨a', c', e, _, _, _, h | ⟨g0, o0, ha, h⟩⟩ := hv
  · exact absurd h hl
  · cases e
    cases ha
    cases l with
    | nil => exact absurd rfl hl
    | cons b l =>
      obtain ⟨y, hy, rfl⟩ := h 0 b rfl
      rw [cell_row hx] at hy
      rcases i with _ | i
      · cases hy
      · simp at hy
end Go.Proofs.Ytnbncjebmlicgaa
/- Walk: the document's number: a number off the front. -/
namespace Go.Proofs.Ytnbncjebmlicgaa
open Go.RowKit

/-- a number off the front, and how many bytes it has; 0: there is none -/
def numOf (p : List UInt8) : Nat × Nat :=
  match Rd.dec 0 0 p with
  | some (n, r) => (n, p.length - r.length)
  | none => (0, 0)

theorem numOf_none {p : List UInt8} (h : Rd.dec 0 0 p = none) : numOf p = (0, 0) := by unfold numOf; rw [h]
theorem numOf_some {p r : List UInt8} {n : Nat} (h : Rd.dec 0 0 p = some (n, r)) : numOf p = (n, p.length - r.length) := by unfold numOf; rw [h]

theorem dec_ten (m : Nat) (l : List UInt8) : Rd.dec 10 m l = none := by
  cases l with
  | nil => rfl
  | cons b l => rw [Rd.dec, if_pos (by omega)]

end Go.Proofs.Ytnbncjebmlicgaa
/- Plain: what a number off the front is: the bytes that would be laid of it. No program is in sight. -/
namespace Go.Proofs.Ytnbncjebmlicgaa
open Go.RowKit

theorem dec_shape (p : List UInt8) : ∀ (i m n : Nat) (r : List UInt8), m < 128 ^ i → Rd.dec i m p = some (n, r) →
    ∃ q, n = m + q * 128 ^ i ∧ p = Vi.varint q ++ r ∧ (i = 0 ∨ 0 < q) ∧ n < 18446744073709551616 := by
  induction p with
  | nil => intro i m n r _ h; cases h
  | cons b l ih =>
    intro i m n r hm h
    have hB : b.toNat < 256 := b.toNat_lt
    rw [Rd.dec] at h
    split at h
    · cases h
    · rename_i hc
      have hi : i ≤ 9 := by omega
      have hl : i < 9 ∨ b.toNat % 128 ≤ 1 := by omega
      obtain ⟨_, h64, h128, _⟩ := dec_or i m b.toNat hi hm hl
      split at h
      · rename_i hb
        cases h
        refine ⟨b.toNat, by rw [Nat.mod_eq_of_lt hb], ?_, by omega, h64⟩
        rw [Vi.varint_small hb]
        simp
      · rename_i hb
        obtain ⟨q, h1, h2, h3, h4⟩ := ih (i + 1) _ n r h128 h
        have hq : 0 < q := by omega
        have e : n = m + (b.toNat % 128 + 128 * q) * 128 ^ i := by
          rw [h1, Nat.pow_succ, Nat.add_mul, Nat.add_assoc]
          congr 2
          rw [Nat.mul_comm (128 ^ i) 128, ← Nat.mul_assoc, Nat.mul_comm q 128]
        have hp : 0 < 128 ^ i := Nat.pow_pos (by omega)
        have hle : b.toNat % 128 + 128 * q ≤ (b.toNat % 128 + 128 * q) * 128 ^ i := Nat.le_mul_of_pos_right _ hp
        refine ⟨b.toNat % 128 + 128 * q, e, ?_, .inr (by omega), h4⟩
        · rw [Vi.varint_step (by omega) (by omega), h2, List.cons_append]
          congr 1
          · rw [show (b.toNat % 128 + 128 * q) % 128 + 128 = b.toNat by omega]; simp
          · rw [show (b.toNat % 128 + 128 * q) / 128 = q by omega]

theorem dec_front {p r : List UInt8} {n : Nat} (h : Rd.dec 0 0 p = some (n, r)) : p = Vi.varint n ++ r ∧ n < 18446744073709551616 ∧ (numOf p).1 = n ∧ (numOf p).2 = (Vi.varint n).length ∧ 0 < (Vi.varint n).length := by
  obtain ⟨q, h1, h2, h3, h4⟩ := dec_shape p 0 0 n r (by simp) h
  have hq : q = n := by simp at h1; exact h1.symm
  subst hq
  refine ⟨h2, h4, by rw [numOf_some h], ?_, (Vi.varint_length q).1⟩
  rw [numOf_some h, h2]
  simp
end Go.Proofs.Ytnbncjebmlicgaa
/- Walks: the document's Num, Zig, Zag. -/
namespace Go.Proofs.Ytnbncjebmlicgaa
open Go.RowKit

set_option maxRecDepth 10000 in
set_option maxHeartbeats 800000 in
theorem refnum_any (n : Nat) : ∀ w : World, n < 18446744073709551616 →
    Calls Try.prog 60 #[.int .u64 n] w fun e w' => ∃ v', e = .returned v' ∧ Own8 5 w.heap.size w' v' (Vi.varint n) ∧ Below w.heap.size w w' := by
  induction n using Nat.strongRecOn with
  | _ n ih =>
    intro w hn
    by_cases h : n < 128
    · have hl := Vi.varint_small h
      have h8 := ofNat_toNat (show n < 256 by omega)
      have ho := own8_lit 5 w #[.int .u8 n] [UInt8.ofNat n] 1 (by simp [B8, h8]) rfl (by simp [maxLen])
      have HO := Lib.hid ho
      clear ih ho
      go_enter Try.func60, Try.ntmps60
      go_wp2
      go_ret
      exact ⟨_, rfl, hl ▸ HO.out, bal (bre w) _⟩
    · have hl := Vi.varint_step (by omega) hn
      have h8 := ofNat_toNat (show n % 128 + 128 < 256 by omega)
      have e1 : ((n / 128 : Nat) : Int) = (n : Int) / 128 := by omega
      have e2 : ((n % 128 + 128 : Nat) : Int) = (n : Int) % 128 + 128 := by omega
      have ih := ih (n / 128) (by omega) (w.alloc (.cells #[.int .u8 ((n : Int) % 128 + 128)] 5)) (by omega)
      rw [e1] at ih
      have ho := own8_lit 5 w #[.int .u8 ((n : Int) % 128 + 128)] [UInt8.ofNat (n % 128 + 128)] 1 (by show [Value.int .u8 _] = [Value.int .u8 _]; rw [h8, e2]) rfl (by simp [maxLen])
      have HO := Lib.hid ho
      have HL := Lib.hid hl
      have HI := Lib.hid ih
      have hlen := (Vi.varint_length (n / 128)).2
      clear ho hl ih h8
      go_enter Try.func60, Try.ntmps60
      go_wp2_with fail
      refine HI.out.mono ?_
      rintro e w2 ⟨v2, rfl, hown2, hb2⟩
      obtain ⟨a2, n2, c2, rfl⟩ := hown2.isSlice
      have hb2' := btr (bal (bre w) (.cells #[.int .u8 ((n : Int) % 128 + 128)] 5)) hb2
      have hr := rows_lit2 w2 _ _ _ _ 55 w2.heap.size rfl (HO.out.bytes.below hb2) hown2.bytes
      have hbig : [[UInt8.ofNat (n % 128 + 128)], Vi.varint (n / 128)].flatten.length ≤ 140737488355328 := by simp; omega
      have HR := Lib.hid hr
      clear hr hown2 hb2
      go_wp2_with fail
      refine (join_any _ _ _ HR.out hbig).mono ?_
      rintro e w3 ⟨v3, rfl, hown3, hb3⟩
      go_wp2
      go_ret
      refine ⟨_, rfl, ?_, btr hb2' (btr (bal (bre w2) _) hb3)⟩
      rw [HL.out]
      have h4 : [[UInt8.ofNat (n % 128 + 128)], Vi.varint (n / 128)].flatten = UInt8.ofNat (n % 128 + 128) :: Vi.varint (n / 128) := by simp
      rw [← h4]
      exact ownsRow_base hown3 (Nat.le_trans hb2'.size (bal (bre w2) _).size)

set_option maxRecDepth 10000 in
theorem zig_any (n : Int) (w : World) (h0 : -9223372036854775808 ≤ n) (h1 : n ≤ 9223372036854775807) :
    Calls Try.prog 74 #[.int .i64 n] w fun e w' => e = .returned (.int .u64 (zig n)) ∧ w' = w := by
  unfold zig
  by_cases h : n < 0
  · rw [if_pos h]
    go_enter Try.func74, Try.ntmps74
    go_wp2
    go_ret
    exact ⟨by go_num, rfl⟩
  · rw [if_neg h]
    go_enter Try.func74, Try.ntmps74
    go_wp2
    go_ret
    exact ⟨by go_num, rfl⟩

end Go.Proofs.Ytnbncjebmlicgaa
/- Walk: the document's Lay: a field's bytes. -/
namespace Go.Proofs.Ytnbncjebmlicgaa
open Go.RowKit

/-- a field -/
structure Fld where
  kind : Nat
  n : Nat
  s : ByteArray
  most : Nat
  hk : kind < 256
  hn : n < 18446744073709551616
  hm : most < 18446744073709551616

def Fld.cells (f : Fld) : Array Value := #[.int .u8 f.kind, .int .u64 f.n, .string f.s, .int .u64 f.most]
def FldV (f : Fld) : Value := .agg f.cells

/-- a field's bytes -/
def layOf (f : Fld) : List UInt8 :=
  if f.kind % 5 = 1 then Vi.varint (zig (wrap64 f.n))
  else if f.kind % 5 = 2 then Vi.varint f.s.size ++ f.s.data.toList
  else if f.kind % 5 = 3 then [UInt8.ofNat (f.n % 256)]
  else if f.kind % 5 = 4 then [UInt8.ofNat (f.n % 2)]
  else Vi.varint f.n

/-- a cell that stays, in a world that has grown -/
abbrev Good (n : Nat) (a : Addr) (u : Value) (w : World) : Prop := n ≤ w.heap.size ∧ w.cell? a = some u

/-- '[]byte(s)', as functions of the world -/
theorem text_fun (s : ByteArray) (hs : s.size ≤ maxLen) : ∃ (fa : World → Option Addr) (fc : World → Nat) (fw : World → World), ∀ w, (convert 9 55 (.string s)).run Try.prog w = .ok (.slice (fa w) s.size (fc w)) (fw w) ∧
    Bytes (fw w) (.slice (fa w) s.size (fc w)) s.data.toList ∧ Below w.heap.size w (fw w) := by
  have h : ∀ w, ∃ (r : Option Addr × Nat × World), (convert 9 55 (.string s)).run Try.prog w = .ok (.slice r.1 s.size r.2.1) r.2.2 ∧
      Bytes r.2.2 (.slice r.1 s.size r.2.1) s.data.toList ∧ Below w.heap.size w r.2.2 := by
    intro w
    obtain ⟨v, w', h1, h2, h3⟩ := run_text (P := Try.prog) w 9 55 5 s Try.underlying9 Try.underlying55 Try.underlying5 hs
    obtain ⟨a, c, rfl, _⟩ := id h2
    have hlen : s.data.toList.length = s.size := Array.length_toList
    rw [hlen] at h1 h2
    exact ⟨(a, c, w'), h1, h2, h3⟩
  exact ⟨fun w => (Classical.choose (h w)).1, fun w => (Classical.choose (h w)).2.1, fun w => (Classical.choose (h w)).2.2, fun w => Classical.choose_spec (h w)⟩

set_option maxRecDepth 10000 in
set_option maxHeartbeats 1600000 in
theorem layr_any (f : Fld) (w : World) (hs : f.s.size ≤ 1000000) :
    Calls Try.prog 61 #[FldV f] w fun e w' => ∃ v', e = .returned v' ∧ Bytes w' v' (layOf f) ∧ Below w.heap.size w w' := by
  obtain ⟨kind, n, s, most, hk, hn, hm⟩ := f
  unfold FldV Fld.cells layOf
  simp only at hs ⊢
  have hb0 := bal (bre w) (.cells #[.int .u8 kind, .int .u64 n, .string s, .int .u64 most] 107)
  have hsz0 : (w.alloc (.cells #[.int .u8 kind, .int .u64 n, .string s, .int .u64 most] 107)).heap.size = w.heap.size + 1 := by simp
  have hcase : kind % 5 = 1 ∨ kind % 5 = 2 ∨ kind % 5 = 3 ∨ kind % 5 = 4 ∨ kind % 5 = 0 := by omega
  rcases hcase with h | h | h | h | h
  · rw [if_pos h]
    have hw : -9223372036854775808 ≤ wrap64 n ∧ wrap64 n ≤ 9223372036854775807 := by unfold wrap64; omega
    go_enter Try.func61, Try.ntmps61
    go_wp2_with first
      | (go_at_call 74; refine (zig_any _ _ hw.1 hw.2).mono ?_; rintro e w1 ⟨rfl, rfl⟩)
      | (go_at_call 60; refine (refnum_any _ _ (zig_lt hw.1 hw.2)).mono ?_; rintro e w2 ⟨v2, rfl, ho2, hb2⟩)
    go_ret
    exact ⟨_, rfl, ho2.bytes, btr hb0 hb2⟩
  · rw [if_neg (by omega), if_pos h]
    have hlen : s.data.toList.length = s.size := Array.length_toList
    have hvl := (Vi.varint_length s.size).2
    have hbig : [Vi.varint s.size, s.data.toList].flatten.length ≤ 140737488355328 := by simp; omega
    have hfl : [Vi.varint s.size, s.data.toList].flatten = Vi.varint s.size ++ s.data.toList := by simp
    have HF := Lib.hid hfl
    have HB := Lib.hid hbig
    clear hfl hbig hlen
    go_enter Try.func61, Try.ntmps61
    have hcell : (w.alloc (.cells #[.int .u8 kind, .int .u64 n, .string s, .int .u64 most] 107)).cell? ⟨w.heap.size, 2, none⟩ = some (.string s) := cell_of_row _ w.heap.size 2 _ _ _ (heap_alloc_new w _)
    go_upto_region 5 with fail
    generalize (w.alloc (.cells #[.int .u8 kind, .int .u64 n, .string s, .int .u64 most] 107)) = W at *
    have hlt : w.heap.size < W.heap.size := by omega
    generalize hgw : w.heap.size = g at *
    clear hsz0
    have h64 : (s.size : Int) < 18446744073709551616 := by omega
    have hs0 : s.size < 18446744073709551616 := by omega
    have hsm : s.size ≤ maxLen := by unfold maxLen; omega
    have hwrap : IntKind.u64.wrap (s.size : Int) = s.size := by rw [IntKind.wrap_u64]; omega
    have hbW := bdr (bre W)
    obtain ⟨fa, fc, fw, hfun⟩ := text_fun s hsm
    have hconv := fun w => (hfun w).1
    have HT := Lib.hid (fun w => (hfun w).2.1)
    have HTB := Lib.hid (fun w => (hfun w).2.2)
    have HG : Hid (∀ w1 w2 : World, Good W.heap.size ⟨g, 2, none⟩ (.string s) w1 → Below w1.heap.size w1 w2 → Good W.heap.size ⟨g, 2, none⟩ (.string s) w2) :=
      Lib.hid fun w1 w2 h1 hb => ⟨Nat.le_trans h1.1 hb.size, (hb.cell (p := ⟨g, 2, none⟩) (Nat.lt_of_lt_of_le hlt h1.1)).trans h1.2⟩
    have hGW : Good W.heap.size ⟨g, 2, none⟩ (.string s) W.drew := ⟨Nat.le_refl _, hcell⟩
    have hGt := HG.out _ _ hGW (HTB.out W.drew)
    have hbt := btr hbW (HTB.out W.drew)
    clear h64 hs hvl hk hn hm h hfun
    refine wp_region_noPanic ?_
    refine wp_region_held_drew (S := fun w' => w'.cell? ⟨g, 2, none⟩ = some (.string s)) (by kernel_rfl) ?_ (fun hHeld => ?_)
    · exact hcell
    -- 0: Op.fieldAddr 40 (Operand.tmp 1) 2
    refine' wpAnyH_take (i := 0) (v := _) rfl (by kernel_rfl) (by kernel_rfl) (by kernel_rfl) (fun _ _ _ h => h) (Or.inl ⟨by rfl, fun w hSw => ?h1⟩) hHeld ?r1
    case h1 => (simp only [List.getElem_toArray, List.getElem_cons_zero]; first | (go_simp; with_reducible rfl) | (go_simp; done) | rfl)
    simp only [List.getElem_toArray, List.getElem_cons_zero, Act.put, List.setIfInBounds_toArray, List.set_cons_zero, List.set_cons_succ]
    -- 1: Op.load 9 (Operand.tmp 15)
    refine' wpAnyH_take (i := 1) (v := _) rfl (by kernel_rfl) (by kernel_rfl) (by kernel_rfl) (fun _ _ _ h => h) (Or.inl ⟨by rfl, fun w hSw => ?h2⟩) hHeld ?r2
    case h2 => (simp only [List.getElem_toArray, List.getElem_cons_succ, List.getElem_cons_zero]; first | (go_simp; with_reducible rfl) | (go_simp; done) | rfl)
    simp only [List.getElem_toArray, List.getElem_cons_succ, List.getElem_cons_zero, Act.put, List.setIfInBounds_toArray, List.set_cons_zero, List.set_cons_succ]
    -- 2: Op.call { callee := Callee.builtin Builtin.len, args := #[Op
    refine' wpAnyH_take (i := 2) (v := _) rfl (by kernel_rfl) (by kernel_rfl) (by kernel_rfl) (fun _ _ _ h => h) (Or.inl ⟨by rfl, fun w hSw => ?h3⟩) hHeld ?r3
    case h3 => (simp only [List.getElem_toArray, List.getElem_cons_succ, List.getElem_cons_zero]; first | (go_simp; with_reducible rfl) | (go_simp; done) | rfl)
    simp only [List.getElem_toArray, List.getElem_cons_succ, List.getElem_cons_zero, Act.put, List.setIfInBounds_toArray, List.set_cons_zero, List.set_cons_succ]
    -- 3: Op.convert 3 22 (Operand.tmp 17)
    refine' wpAnyH_take (i := 3) (v := _) rfl (by kernel_rfl) (by kernel_rfl) (by kernel_rfl) (fun _ _ _ h => h) (Or.inl ⟨by rfl, fun w hSw => ?h4⟩) hHeld ?r4
    case h4 => (simp only [List.getElem_toArray, List.getElem_cons_succ, List.getElem_cons_zero]; first | (go_simp; with_reducible rfl) | (go_simp; done) | rfl)
    simp only [List.getElem_toArray, List.getElem_cons_succ, List.getElem_cons_zero, Act.put, List.setIfInBounds_toArray, List.set_cons_zero, List.set_cons_succ]
    -- 5: Op.fieldAddr 40 (Operand.tmp 1) 2
    refine' wpAnyH_take (i := 5) (v := _) rfl (by kernel_rfl) (by kernel_rfl) (by kernel_rfl) (fun _ _ _ h => h) (Or.inl ⟨by rfl, fun w hSw => ?h5⟩) hHeld ?r5
    case h5 => (simp only [List.getElem_toArray, List.getElem_cons_succ, List.getElem_cons_zero]; first | (go_simp; with_reducible rfl) | (go_simp; done) | rfl)
    simp only [List.getElem_toArray, List.getElem_cons_succ, List.getElem_cons_zero, Act.put, List.setIfInBounds_toArray, List.set_cons_zero, List.set_cons_succ]
    -- 6: Op.load 9 (Operand.tmp 20)
    refine' wpAnyH_take (i := 6) (v := _) rfl (by kernel_rfl) (by kernel_rfl) (by kernel_rfl) (fun _ _ _ h => h) (Or.inl ⟨by rfl, fun w hSw => ?h6⟩) hHeld ?r6
    case h6 => (simp only [List.getElem_toArray, List.getElem_cons_succ, List.getElem_cons_zero]; first | (go_simp; with_reducible rfl) | (go_simp; done) | rfl)
    simp only [List.getElem_toArray, List.getElem_cons_succ, List.getElem_cons_zero, Act.put, List.setIfInBounds_toArray, List.set_cons_zero, List.set_cons_succ]
    refine' wpAnyH_ready (rs := [4, 7]) (by kernel_rfl) (by simp) (AllReadyH.cons (o := _) ?i7_4 (fun K hK => ?s7_4) (AllReadyH.cons (o := _) ?i7_7 (fun K hK => ?s7_7) AllReadyH.nil))
    case i7_4 => (simp only [List.getElem?_toArray, List.getElem?_cons_succ, List.getElem?_cons_zero]; rfl)
    case i7_7 => (simp only [List.getElem?_toArray, List.getElem?_cons_succ, List.getElem?_cons_zero]; rfl)
    case s7_4 =>
      -- 4: Op.call { callee := Callee.value (Operand.func 39), args := 
      go_simp
      with_reducible refine (refnum_any s.size _ hs0).mono ?_
      rintro e wn ⟨vn, rfl, hon, hbn⟩
      obtain ⟨an, nn, cn, rfl⟩ := hon.isSlice
      have hyn := hon.bytes
      have hGn := HG.out _ wn hGW hbn
      have hbn2 := btr hbW hbn
      refine hK.out _ _ ?_ (fun hHeld => ?_)
      · with_reducible first | exact hGW.2 | exact hGn.2 | exact hGj.2 | exact hGt.2 | exact (HG.out _ _ (HG.out _ _ hGn (HTB.out wn)) (bal (bre _) _)).2 | exact (HG.out _ _ hGn (bal (bre _) _)).2 | exact (HG.out _ _ hGn (HTB.out wn)).2
      clear hK
      try simp only [Act.put, List.setIfInBounds_toArray, List.set_cons_zero, List.set_cons_succ]
      refine' wpAnyH_ready (rs := [7]) (by kernel_rfl) (by simp) (AllReadyH.cons (o := _) ?i8_7 (fun K hK => ?s8_7) AllReadyH.nil)
      case i8_7 => (simp only [List.getElem?_toArray, List.getElem?_cons_succ, List.getElem?_cons_zero]; rfl)
      -- 7: Op.convert 9 24 (Operand.tmp 21)
      go_simp
      refine hK.out _ _ ?_ (fun hHeld => ?_)
      · with_reducible first | exact hGW.2 | exact hGn.2 | exact hGj.2 | exact hGt.2 | exact (HG.out _ _ (HG.out _ _ hGn (HTB.out wn)) (bal (bre _) _)).2 | exact (HG.out _ _ hGn (bal (bre _) _)).2 | exact (HG.out _ _ hGn (HTB.out wn)).2
      clear hK
      try simp only [Act.put, List.setIfInBounds_toArray, List.set_cons_zero, List.set_cons_succ]
      refine' wpAnyH_ready (rs := [8]) (by kernel_rfl) (by simp) (AllReadyH.cons (o := _) ?i9_8 (fun K hK => ?s9_8) AllReadyH.nil)
      case i9_8 => (simp only [List.getElem?_toArray, List.getElem?_cons_succ, List.getElem?_cons_zero]; rfl)
      -- 8: Op.buildSlice 68 2 #[(0, Operand.tmp 19), (1, Operand.tmp 22
      go_simp
      refine hK.out _ _ ?_ (fun hHeld => ?_)
      · with_reducible first | exact hGW.2 | exact hGn.2 | exact hGj.2 | exact hGt.2 | exact (HG.out _ _ (HG.out _ _ hGn (HTB.out wn)) (bal (bre _) _)).2 | exact (HG.out _ _ hGn (bal (bre _) _)).2 | exact (HG.out _ _ hGn (HTB.out wn)).2
      clear hK
      try simp only [Act.put, List.setIfInBounds_toArray, List.set_cons_zero, List.set_cons_succ]
      refine' wpAnyH_ready (rs := [9]) (by kernel_rfl) (by simp) (AllReadyH.cons (o := _) ?i10_9 (fun K hK => ?s10_9) AllReadyH.nil)
      case i10_9 => (simp only [List.getElem?_toArray, List.getElem?_cons_succ, List.getElem?_cons_zero]; rfl)
      -- 9: Op.call { callee := Callee.value (Operand.func 23), args := 
      go_simp
      with_reducible refine (join_any _ [Vi.varint s.size, s.data.toList] _ (rows_lit2 (fw wn) _ _ _ _ _ _ rfl (hyn.below (HTB.out wn)) (HT.out wn)) HB.out).mono ?_
      rintro e wj ⟨vj, rfl, hoj, hbj⟩
      have hGj := HG.out _ _ (HG.out _ _ (HG.out _ _ hGn (HTB.out wn)) (bal (bre _) _)) hbj
      have hbj2 := btr (bal (btr hbn2 (HTB.out wn)) _) hbj
      refine hK.out _ _ ?_ (fun hHeld => ?_)
      · with_reducible first | exact hGW.2 | exact hGn.2 | exact hGj.2 | exact hGt.2 | exact (HG.out _ _ (HG.out _ _ hGn (HTB.out wn)) (bal (bre _) _)).2 | exact (HG.out _ _ hGn (bal (bre _) _)).2 | exact (HG.out _ _ hGn (HTB.out wn)).2
      clear hK
      try simp only [Act.put, List.setIfInBounds_toArray, List.set_cons_zero, List.set_cons_succ]
      -- 10: Op.assign (Operand.tmp 24)
      refine' wpAnyH_take (i := 10) (v := _) rfl (by kernel_rfl) (by kernel_rfl) (by kernel_rfl) (fun _ _ _ h => h) (Or.inl ⟨by rfl, fun w hSw => ?h11⟩) hHeld ?r11
      case h11 => (simp only [List.getElem_toArray, List.getElem_cons_succ, List.getElem_cons_zero]; first | (go_simp; with_reducible rfl) | (go_simp; done) | rfl)
      simp only [List.getElem_toArray, List.getElem_cons_succ, List.getElem_cons_zero, Act.put, List.setIfInBounds_toArray, List.set_cons_zero, List.set_cons_succ]
      refine wpAnyH_done (by kernel_rfl) ?_ _
      refine NoPanic.normal ?_
      go_wp2
      go_ret
      have hyj := hoj.bytes
      rw [HF.out] at hyj
      refine ⟨_, rfl, hyj, ?_⟩
      rw [hgw]
      exact hb0.trans (hbj2.mono (Nat.le_of_lt hlt))
    case s7_7 =>
      -- 7: Op.convert 9 24 (Operand.tmp 21)
      go_simp
      refine hK.out _ _ ?_ (fun hHeld => ?_)
      · with_reducible first | exact hGW.2 | exact hGn.2 | exact hGj.2 | exact hGt.2 | exact (HG.out _ _ (HG.out _ _ hGn (HTB.out wn)) (bal (bre _) _)).2 | exact (HG.out _ _ hGn (bal (bre _) _)).2 | exact (HG.out _ _ hGn (HTB.out wn)).2
      clear hK
      try simp only [Act.put, List.setIfInBounds_toArray, List.set_cons_zero, List.set_cons_succ]
      refine' wpAnyH_ready (rs := [4]) (by kernel_rfl) (by simp) (AllReadyH.cons (o := _) ?i12_4 (fun K hK => ?s12_4) AllReadyH.nil)
      case i12_4 => (simp only [List.getElem?_toArray, List.getElem?_cons_succ, List.getElem?_cons_zero]; rfl)
      -- 4: Op.call { callee := Callee.value (Operand.func 39), args := 
      go_simp
      with_reducible refine (refnum_any s.size _ hs0).mono ?_
      rintro e wn ⟨vn, rfl, hon, hbn⟩
      obtain ⟨an, nn, cn, rfl⟩ := hon.isSlice
      have hyn := hon.bytes
      have hGn := HG.out _ wn hGt hbn
      have hbn2 := btr hbt hbn
      refine hK.out _ _ ?_ (fun hHeld => ?_)
      · with_reducible first | exact hGW.2 | exact hGn.2 | exact hGj.2 | exact hGt.2 | exact (HG.out _ _ (HG.out _ _ hGn (HTB.out wn)) (bal (bre _) _)).2 | exact (HG.out _ _ hGn (bal (bre _) _)).2 | exact (HG.out _ _ hGn (HTB.out wn)).2
      clear hK
      try simp only [Act.put, List.setIfInBounds_toArray, List.set_cons_zero, List.set_cons_succ]
      refine' wpAnyH_ready (rs := [8]) (by kernel_rfl) (by simp) (AllReadyH.cons (o := _) ?i13_8 (fun K hK => ?s13_8) AllReadyH.nil)
      case i13_8 => (simp only [List.getElem?_toArray, List.getElem?_cons_succ, List.getElem?_cons_zero]; rfl)
      -- 8: Op.buildSlice 68 2 #[(0, Operand.tmp 19), (1, Operand.tmp 22
      go_simp
      refine hK.out _ _ ?_ (fun hHeld => ?_)
      · with_reducible first | exact hGW.2 | exact hGn.2 | exact hGj.2 | exact hGt.2 | exact (HG.out _ _ (HG.out _ _ hGn (HTB.out wn)) (bal (bre _) _)).2 | exact (HG.out _ _ hGn (bal (bre _) _)).2 | exact (HG.out _ _ hGn (HTB.out wn)).2
      clear hK
      try simp only [Act.put, List.setIfInBounds_toArray, List.set_cons_zero, List.set_cons_succ]
      refine' wpAnyH_ready (rs := [9]) (by kernel_rfl) (by simp) (AllReadyH.cons (o := _) ?i14_9 (fun K hK => ?s14_9) AllReadyH.nil)
      case i14_9 => (simp only [List.getElem?_toArray, List.getElem?_cons_succ, List.getElem?_cons_zero]; rfl)
      -- 9: Op.call { callee := Callee.value (Operand.func 23), args := 
      go_simp
      with_reducible refine (join_any _ [Vi.varint s.size, s.data.toList] _ (rows_lit2 wn _ _ _ _ _ _ rfl hyn ((HT.out _).below hbn)) HB.out).mono ?_
      rintro e wj ⟨vj, rfl, hoj, hbj⟩
      have hGj := HG.out _ _ (HG.out _ _ hGn (bal (bre _) _)) hbj
      have hbj2 := btr (bal hbn2 _) hbj
      refine hK.out _ _ ?_ (fun hHeld => ?_)
      · with_reducible first | exact hGW.2 | exact hGn.2 | exact hGj.2 | exact hGt.2 | exact (HG.out _ _ (HG.out _ _ hGn (HTB.out wn)) (bal (bre _) _)).2 | exact (HG.out _ _ hGn (bal (bre _) _)).2 | exact (HG.out _ _ hGn (HTB.out wn)).2
      clear hK
      try simp only [Act.put, List.setIfInBounds_toArray, List.set_cons_zero, List.set_cons_succ]
      -- 10: Op.assign (Operand.tmp 24)
      refine' wpAnyH_take (i := 10) (v := _) rfl (by kernel_rfl) (by kernel_rfl) (by kernel_rfl) (fun _ _ _ h => h) (Or.inl ⟨by rfl, fun w hSw => ?h15⟩) hHeld ?r15
      case h15 => (simp only [List.getElem_toArray, List.getElem_cons_succ, List.getElem_cons_zero]; first | (go_simp; with_reducible rfl) | (go_simp; done) | rfl)
      simp only [List.getElem_toArray, List.getElem_cons_succ, List.getElem_cons_zero, Act.put, List.setIfInBounds_toArray, List.set_cons_zero, List.set_cons_succ]
      refine wpAnyH_done (by kernel_rfl) ?_ _
      refine NoPanic.normal ?_
      go_wp2
      go_ret
      have hyj := hoj.bytes
      rw [HF.out] at hyj
      refine ⟨_, rfl, hyj, ?_⟩
      rw [hgw]
      exact hb0.trans (hbj2.mono (Nat.le_of_lt hlt))
  · rw [if_neg (by omega), if_neg (by omega), if_pos h]
    have h8 := ofNat_toNat (show n % 256 < 256 by omega)
    have ho := own8_lit 5 (w.alloc (.cells #[.int .u8 kind, .int .u64 n, .string s, .int .u64 most] 107)) #[.int .u8 ((n : Int) % 256)] [UInt8.ofNat (n % 256)] 1 (by show [Value.int .u8 _] = [Value.int .u8 _]; rw [h8]; rfl) rfl (by simp [maxLen])
    have hy := ho.bytes
    rw [hsz0] at hy
    have HO := Lib.hid hy
    clear ho h8 hy hsz0
    go_enter Try.func61, Try.ntmps61
    go_wp2
    go_ret
    exact ⟨_, rfl, HO.out, btr hb0 (bal (bre _) _)⟩
  · rw [if_neg (by omega), if_neg (by omega), if_neg (by omega), if_pos h]
    have h8 := ofNat_toNat (show n % 2 < 256 by omega)
    have ho := own8_lit 5 (w.alloc (.cells #[.int .u8 kind, .int .u64 n, .string s, .int .u64 most] 107)) #[.int .u8 ((n : Int) % 2)] [UInt8.ofNat (n % 2)] 1 (by show [Value.int .u8 _] = [Value.int .u8 _]; rw [h8]; rfl) rfl (by simp [maxLen])
    have hy := ho.bytes
    rw [hsz0] at hy
    have HO := Lib.hid hy
    clear ho h8 hy hsz0
    go_enter Try.func61, Try.ntmps61
    go_wp2
    go_ret
    exact ⟨_, rfl, HO.out, btr hb0 (bal (bre _) _)⟩
  · rw [if_neg (by omega), if_neg (by omega), if_neg (by omega), if_neg (by omega)]
    go_enter Try.func61, Try.ntmps61
    go_wp2_with (go_at_call 60; refine (refnum_any _ _ hn).mono ?_; rintro e w2 ⟨v2, rfl, ho2, hb2⟩)
    go_ret
    exact ⟨_, rfl, ho2.bytes, btr hb0 hb2⟩
end Go.Proofs.Ytnbncjebmlicgaa
