/- Walks: a reader's Int, Text, Byte, Bool, Left, Done; Read. -/
import Derived.Test.YtminfdlhbecnhaaGreatDoorRNum
import Derived.Test.YtminfdlhbecnhaaGreatDoorWRest
namespace Go.Proofs.YtminfdlhbecnhaaGreatDoor
open Go.RowKit

/-- a number as an int -/
def zag (n : Nat) : Int := if n % 2 = 1 then -((n / 2 : Nat) : Int) - 1 else ((n / 2 : Nat) : Int)
def Rd.int (o : Option (List UInt8)) : Int × Option (List UInt8) := (zag (Rd.num 18446744073709551615 o).1, (Rd.num 18446744073709551615 o).2)
def Rd.text (most : Nat) (o : Option (List UInt8)) : List UInt8 × Option (List UInt8) :=
  match Rd.num most o with
  | (n, some l) => if n ≤ l.length then (l.take n, some (l.drop n)) else ([], none)
  | (_, none) => ([], none)
def Rd.bool (o : Option (List UInt8)) : Bool × Option (List UInt8) := (decide ((Rd.take o).1.toNat = 1), if 1 < (Rd.take o).1.toNat then none else (Rd.take o).2)
def Rd.left (o : Option (List UInt8)) : Nat := (o.map List.length).getD 0

theorem Rd.num_lt (most : Nat) (o : Option (List UInt8)) : (Rd.num most o).1 ≤ most := by
  unfold Rd.num
  split
  · split
    · assumption
    · exact Nat.zero_le _
  · exact Nat.zero_le _

theorem zag_bits (n : Nat) (hn : n ≤ 18446744073709551615) : bits .xor .i64 ((n : Int) / 2) (wrap64 (-wrap64 (bits .and .u64 (n : Int) 1))) = zag n := by
  have h1 : bits .and .u64 (n : Int) 1 = ((n % 2 : Nat) : Int) := by
    rw [show (1 : Int) = ((1 : Nat) : Int) by rfl, bits_and_u64_nat _ _ (by omega) (by omega), nat_mask1]
  have h2 : (BitVec.ofInt 64 ((n : Int) / 2)).toNat = n / 2 := by
    rw [show (n : Int) / 2 = ((n / 2 : Nat) : Int) by omega, BitVec.ofInt_natCast, BitVec.toNat_ofNat]; exact Nat.mod_eq_of_lt (by omega)
  rw [h1]
  unfold zag
  rcases Nat.mod_two_eq_zero_or_one n with h | h
  · rw [h, if_neg (by omega)]
    show IntKind.i64.wrap ((BitVec.ofInt 64 ((n : Int) / 2) ^^^ BitVec.ofInt 64 (wrap64 (-wrap64 ((0 : Nat) : Int)))).toNat : Int) = _
    rw [BitVec.toNat_xor, h2, show (BitVec.ofInt 64 (wrap64 (-wrap64 ((0 : Nat) : Int)))).toNat = 0 by first | rfl | simp [wrap64], Nat.xor_zero]
    rw [IntWalk.i64_left]
    unfold wrap64
    omega
  · rw [h, if_pos rfl]
    show IntKind.i64.wrap ((BitVec.ofInt 64 ((n : Int) / 2) ^^^ BitVec.ofInt 64 (wrap64 (-wrap64 ((1 : Nat) : Int)))).toNat : Int) = _
    rw [BitVec.toNat_xor, h2, show (BitVec.ofInt 64 (wrap64 (-wrap64 ((1 : Nat) : Int)))).toNat = 18446744073709551615 by first | rfl | simp [wrap64], not64 _ (by omega)]
    rw [IntWalk.i64_left]
    unfold wrap64
    omega

set_option maxRecDepth 10000 in
set_option maxHeartbeats 400000 in
theorem rbyte_any (B : Nat) (v : Value) (o : Option (List UInt8)) (w : World) (hr : RdAt B w v o) :
    Calls Tryz.prog 31 #[v] w fun e w' => e = .returned (.int .u8 (Rd.take o).1.toNat) ∧ RdAt B w' v (Rd.take o).2 ∧ Turned w w' v := by
  go_enter Tryz.func31, Tryz.ntmps31
  go_wp2_with (go_at_call 54; refine (take_any B v o w hr).mono ?_; rintro e w1 ⟨rfl, hr1, ht1⟩)
  go_ret
  exact ⟨rfl, hr1, ht1⟩

set_option maxRecDepth 10000 in
set_option maxHeartbeats 400000 in
theorem done_any (B : Nat) (v : Value) (o : Option (List UInt8)) (w : World) (hr : RdAt B w v o) :
    Calls Tryz.prog 34 #[v] w fun e w' => e = .returned (.int .i64 (if o = some [] then 0 else 2)) ∧ w' = w := by
  have HR := Lib.hid hr
  rcases hr with ⟨rfl, rfl⟩ | ⟨g, u, rfl, hgB, ⟨rfl, hg⟩ | ⟨l, rfl, hg, hb, _⟩⟩
  · go_enter Tryz.func34, Tryz.ntmps34
    go_wp2_with (go_at_call 55; refine (wrong_any B _ _ _ HR.out).mono ?_; rintro e w2 ⟨rfl, rfl⟩; simp only [Option.isNone])
    go_ret
    exact ⟨rfl, rfl⟩
  · clear hg
    go_enter Tryz.func34, Tryz.ntmps34
    go_wp2_with (go_at_call 55; refine (wrong_any B _ _ _ HR.out).mono ?_; rintro e w2 ⟨rfl, rfl⟩; simp only [Option.isNone])
    go_ret
    exact ⟨rfl, rfl⟩
  · have hc0 : w.cell? ⟨g, 0, none⟩ = some u := cell_of_row w g 0 _ _ _ hg
    obtain ⟨a, c, rfl, _⟩ := hb
    clear hg
    cases l
    all_goals
      go_enter Tryz.func34, Tryz.ntmps34
      go_wp2_with (go_at_call 55; refine (wrong_any B _ _ _ HR.out).mono ?_; rintro e w2 ⟨rfl, rfl⟩; simp only [Option.isNone])
      go_ret
      exact ⟨rfl, rfl⟩

theorem RdAt.nil_some {B : Nat} {w : World} {l : List UInt8} (h : RdAt B w (.pointer none) (some l)) : False := by
  rcases h with ⟨_, h⟩ | ⟨g, u, h, _⟩
  · cases h
  · cases h

theorem RdAt.fields {B : Nat} {w : World} {g : Nat} {l : List UInt8} (h : RdAt B w (.pointer (some ⟨g, 0, none⟩)) (some l)) :
    ∃ a c, w.cell? ⟨g, 0, none⟩ = some (.slice a l.length c) ∧ l.length ≤ 9223372036854775807 ∧ l.length ≤ c ∧ w.frozen? ⟨g, 0, none⟩ = false ∧ Hid (w.heap[g]? = some (.cells #[.slice a l.length c, .bool false] 91 (0, 0))) ∧
      Hid (Bytes w (.slice a l.length c) l) ∧ Hid (∀ k i n c', l ≠ [] → Value.slice a l.length c = .slice (some ⟨k, i, none⟩) n c' → k < B) := by
  rcases h with ⟨h, _⟩ | ⟨g', u, h, _, ⟨h', _⟩ | ⟨l', h', hg, hb, hB⟩⟩
  · cases h
  · cases h'
  · cases h
    cases h'
    have hb' := hb
    obtain ⟨a, c, rfl, h1, h2, _⟩ := hb
    exact ⟨a, c, cell_of_row w g 0 _ _ _ hg, by unfold maxLen at h1; omega, h2, frozen_of_row w g 0 _ _ hg, Lib.hid hg, Lib.hid hb', Lib.hid hB⟩

theorem bytes_lt {w : World} {k i n c : Nat} {l : List UInt8} (h : Bytes w (.slice (some ⟨k, i, none⟩) n c) l) (hl : l ≠ []) : k < w.heap.size := by
  obtain ⟨a', c', e, _, _, _, h | ⟨g, o, ha, h⟩⟩ := h
  · exact absurd h hl
  · cases e
    cases ha
    cases l with
    | nil => exact absurd rfl hl
    | cons b l =>
      obtain ⟨u, hu, _⟩ := h 0 b rfl
      exact block_lt_of_cell hu

theorem reader_ne {w : World} {g k i n c T : Nat} {b : Bool} {l : List UInt8} (hg : w.heap[g]? = some (.cells #[.slice (some ⟨k, i, none⟩) n c, .bool b] T (0, 0)))
    (h : Bytes w (.slice (some ⟨k, i, none⟩) n c) l) (hl : l ≠ []) : k ≠ g := by
  rintro rfl
  obtain ⟨a', c', e, _, _, _, h | ⟨g, o, ha, h⟩⟩ := h
  · exact absurd h hl
  · cases e
    cases ha
    cases l with
    | nil => exact absurd rfl hl
    | cons x l =>
      obtain ⟨y, hy, rfl⟩ := h 0 x rfl
      rw [cell_row hg] at hy
      rcases i with _ | _ | i
      · cases hy
      · cases hy
      · simp at hy

theorem rd_drop {B : Nat} {w : World} {g : Nat} {a : Option Addr} {c : Nat} {l : List UInt8} (hgB : g < B) (hg : w.heap[g]? = some (.cells #[.slice a l.length c, .bool false] 91 (0, 0)))
    (hb : Bytes w (.slice a l.length c) l) (hB : ∀ k i n c', l ≠ [] → Value.slice a l.length c = .slice (some ⟨k, i, none⟩) n c' → k < B) (m : Nat) (hm : m ≤ l.length) :
    RdAt B (w.setCell ⟨g, 0, none⟩ (.slice (if c = m then a else a.map (·.add m)) (l.length - m) (c - m))) (.pointer (some ⟨g, 0, none⟩)) (some (l.drop m)) := by
  have hs := hb.suffix m hm
  have key : ∀ k i n c', l.drop m ≠ [] → Value.slice (if c = m then a else a.map (·.add m)) (l.length - m) (c - m) = .slice (some ⟨k, i, none⟩) n c' → k < B ∧ k ≠ g := by
    intro k i n c' hl e
    have hl0 : l ≠ [] := fun h => hl (by simp [h])
    have hlt : m < l.length := by
      rcases Nat.lt_or_ge m l.length with h | h
      · exact h
      · exact absurd (List.drop_eq_nil_of_le h) hl
    obtain ⟨a', c2, e2, _, hc, _, h | ⟨g0, o0, ha, _⟩⟩ := id hb
    · exact absurd h hl0
    · cases e2
      subst ha
      rw [if_neg (by omega), Option.map_some, Addr.add_mid] at e
      cases e
      exact ⟨hB _ _ _ _ hl0 rfl, reader_ne hg hb hl0⟩
  exact .inr ⟨g, _, rfl, hgB, .inr ⟨_, rfl, set_first hg _, Bytes.only (S := fun k => k = g) hs (Only.setCell w _ _) (fun k i n c' hl e => (key k i n c' hl e).2), fun k i n c' hl e => (key k i n c' hl e).1⟩⟩

set_option maxRecDepth 10000 in
set_option maxHeartbeats 400000 in
theorem read_any (p : Value) (l : List UInt8) (w : World) (hp : Bytes w p l) (hbig : l.length ≤ 140737488355328) :
    Calls Tryz.prog 30 #[p] w fun e w' => ∃ v, e = .returned v ∧ RdAt w'.heap.size w' v (some l) ∧ Below w.heap.size w w' ∧ ∀ k, v = .pointer (some ⟨k, 0, none⟩) → w.heap.size ≤ k := by
  go_enter Tryz.func30, Tryz.ntmps30
  go_wp2_with (go_at_call 49; refine (clone_any p l w hp hbig).mono ?_; rintro e w1 ⟨v1, rfl, hown1, hb1⟩; obtain ⟨a1, n1, c1, rfl⟩ := hown1.isSlice)
  go_ret
  have hb2 := bal (bre w1) (.cells #[.slice a1 n1 c1, .bool false] 91)
  have hg := heap_alloc_new w1 (.cells #[.slice a1 n1 c1, .bool false] 91)
  have hlt := hb2.size
  refine ⟨_, rfl, .inr ⟨w1.heap.size, _, rfl, by simp, .inr ⟨l, rfl, hg, hown1.bytes.below hb2, fun k i n c hl e => ?_⟩⟩, btr hb1 hb2, fun k e => by cases e; exact hb1.size⟩
  cases e
  exact Nat.lt_of_lt_of_le (bytes_lt hown1.bytes hl) hlt

set_option maxRecDepth 10000 in
set_option maxHeartbeats 400000 in
theorem rtext_any (B : Nat) (v : Value) (o : Option (List UInt8)) (most : Nat) (w : World) (hm : most < 9223372036854775808) (hr : RdAt B w v o) :
    Calls Tryz.prog 33 #[v, .int .i64 most] w fun e w' => e = .returned (.string (strOf (Rd.text most o).1)) ∧ RdAt B w' v (Rd.text most o).2 ∧ Turned w w' v := by
  have hn := rnum_any B v o most w hr
  have hlt := Rd.num_lt most o
  unfold Rd.text
  generalize Rd.num most o = r at *
  obtain ⟨n, o'⟩ := r
  simp only at hn hlt
  have HN := Lib.hid hn
  clear hn
  cases o' with
  | none =>
    go_enter Tryz.func33, Tryz.ntmps33
    go_wp2_with first
      | (go_at_call 32; refine HN.out.mono ?_; rintro e w1 ⟨rfl, hr1, ht1⟩)
      | (go_at_call 55; refine (wrong_any B _ _ _ hr1).mono ?_; rintro e w2 ⟨rfl, rfl⟩; simp only [Option.isNone])
      | (go_at_call 56; refine (fail_any B v _ _ hr1).mono ?_; rintro e w3 ⟨rfl, hr3, ht3⟩)
    go_ret
    exact ⟨rfl, hr3, ht1.trans ht3⟩
  | some l =>
    rcases hr with ⟨rfl, rfl⟩ | ⟨g, u0, rfl, hgB, _⟩
    · go_enter Tryz.func33, Tryz.ntmps33
      go_wp2_with (go_at_call 32; refine HN.out.mono ?_; rintro e w1 ⟨rfl, hr1, ht1⟩; exact hr1.nil_some.elim)
    by_cases hnl : n ≤ l.length
    · simp only [if_pos hnl]
      go_enter Tryz.func33, Tryz.ntmps33
      go_wp2_with first
        | (go_at_call 32; refine HN.out.mono ?_; rintro e w1 ⟨rfl, hr1, ht1⟩)
        | (go_at_call 55; refine (wrong_any B _ _ _ hr1).mono ?_; rintro e w2 ⟨rfl, rfl⟩; simp only [Option.isNone]; obtain ⟨a, c, hc0, hml, hcap, hf0, HG, HB, HBB⟩ := hr1.fields; have hs := run_str (P := Tryz.prog) w2 26 9 5 _ _ (SliceOf.firsts HB.out n hnl) Tryz.underlying26 Tryz.underlying5 Tryz.underlying9)
      all_goals
        go_ret
        refine ⟨rfl, ?_, ht1.trans (Turned.set w2 g 0 _)⟩
        have hrd := rd_drop hgB HG.out HB.out HBB.out n hnl
        first
          | exact hrd
          | (rw [if_neg (by assumption)] at hrd; exact hrd)
          | (subst c; rw [if_pos rfl, Nat.sub_self] at hrd; exact hrd)
    · simp only [if_neg hnl]
      go_enter Tryz.func33, Tryz.ntmps33
      go_wp2_with first
        | (go_at_call 32; refine HN.out.mono ?_; rintro e w1 ⟨rfl, hr1, ht1⟩)
        | (go_at_call 55; refine (wrong_any B _ _ _ hr1).mono ?_; rintro e w2 ⟨rfl, rfl⟩; simp only [Option.isNone]; obtain ⟨a, c, hc0, hml, hcap, hf0, HG, HB, HBB⟩ := hr1.fields)
        | (go_at_call 56; refine (fail_any B _ _ _ hr1).mono ?_; rintro e w3 ⟨rfl, hr3, ht3⟩)
      go_ret
      exact ⟨rfl, hr3, ht1.trans ht3⟩
end Go.Proofs.YtminfdlhbecnhaaGreatDoor
