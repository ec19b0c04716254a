/- Walk: the law's take: a field, as it was asked. -/
import Derived.Test.YtddhnenlfdpomaaLayR
import Derived.Test.YtddhnenlfdpomaaRRest
namespace Go.Proofs.Ytddhnenlfdpomaa
open Go.RowKit

/-- a struct of four fields that lies in a block of its own: its cells -/
theorem row4 {w : World} {g T : Nat} {a b c d : Value} (h : w.heap[g]? = some (.cells #[a, b, c, d] T (0, 0))) :
    w.cell? ⟨g, 0, none⟩ = some a ∧ w.cell? ⟨g, 1, none⟩ = some b ∧ w.cell? ⟨g, 2, none⟩ = some c ∧ w.cell? ⟨g, 3, none⟩ = some d ∧ ∀ o, w.frozen? ⟨g, o, none⟩ = false :=
  ⟨cell_of_row w g 0 _ _ _ h, cell_of_row w g 1 _ _ _ h, cell_of_row w g 2 _ _ _ h, cell_of_row w g 3 _ _ _ h, fun o => frozen_of_row w g o _ _ h⟩

/-- what the law's take makes of a field -/
def takeOf (f : Fld) (o : Option (List UInt8)) : Value :=
  if f.kind % 5 = 1 then .agg #[.int .u8 f.kind, .int .u64 (IntKind.u64.wrap (Rd.int o).1), .string ⟨#[]⟩, .int .u64 f.most]
  else if f.kind % 5 = 2 then .agg #[.int .u8 f.kind, .int .u64 0, .string (strOf (Rd.text (f.most % 1000) o).1), .int .u64 f.most]
  else if f.kind % 5 = 3 then .agg #[.int .u8 f.kind, .int .u64 (Rd.take o).1.toNat, .string ⟨#[]⟩, .int .u64 f.most]
  else if f.kind % 5 = 4 then .agg #[.int .u8 f.kind, .int .u64 (if (Rd.bool o).1 then 1 else 0), .string ⟨#[]⟩, .int .u64 f.most]
  else .agg #[.int .u8 f.kind, .int .u64 (Rd.num f.most o).1, .string ⟨#[]⟩, .int .u64 f.most]
def takeRest (f : Fld) (o : Option (List UInt8)) : Option (List UInt8) :=
  if f.kind % 5 = 1 then (Rd.int o).2
  else if f.kind % 5 = 2 then (Rd.text (f.most % 1000) o).2
  else if f.kind % 5 = 3 then (Rd.take o).2
  else if f.kind % 5 = 4 then (Rd.bool o).2
  else (Rd.num f.most o).2

theorem RdAt.keep {B : Nat} {w w' : World} {v : Value} {o : Option (List UInt8)} (h : RdAt B w v o) (hb : Below w.heap.size w w') : RdAt B w' v o := by
  rcases h with h | ⟨g, u, rfl, hg, h⟩
  · exact .inl h
  · rcases h with ⟨rfl, h⟩ | ⟨l, rfl, h, hy, hB⟩
    · exact .inr ⟨g, undef, rfl, hg, .inl ⟨rfl, (hb.block g (Array.getElem?_eq_some_iff.1 h).1).trans h⟩⟩
    · exact .inr ⟨g, u, rfl, hg, .inr ⟨l, rfl, (hb.block g (Array.getElem?_eq_some_iff.1 h).1).trans h, hy.below hb, hB⟩⟩

theorem RdAt.ptr {B : Nat} {w : World} {v : Value} {o : Option (List UInt8)} (h : RdAt B w v o) : v = .pointer none ∨ ∃ g, v = .pointer (some ⟨g, 0, none⟩) ∧ g < w.heap.size := by
  rcases h with h | ⟨g, u, rfl, hg, h⟩
  · exact .inl h.1
  · rcases h with ⟨rfl, h⟩ | ⟨l, rfl, h, hy, hB⟩ <;> exact .inr ⟨g, rfl, (Array.getElem?_eq_some_iff.1 h).1⟩

theorem Turned.block {w w' : World} {v : Value} (h : Turned w w' v) {k : Nat} {r : Obj} (hk : w.heap[k]? = some r) (hv : v ≠ .pointer (some ⟨k, 0, none⟩)) : w'.heap[k]? = some r :=
  (Only.block h k (Array.getElem?_eq_some_iff.1 hk).1 hv).trans hk

theorem bset {B : Nat} {a b : World} (h : Below B a b) (g o : Nat) (u : Value) (hg : B ≤ g) : Below B a (b.setCell ⟨g, o, none⟩ u) := h.setCell hg u

theorem RdAt.low {B : Nat} {w w' : World} {v : Value} {o : Option (List UInt8)} (h : RdAt B w v o) (hb : Below B w w') : RdAt B w' v o := by
  rcases h with h | ⟨g, u, rfl, hg, h⟩
  · exact .inl h
  · rcases h with ⟨rfl, h⟩ | ⟨l, rfl, h, hy, hB⟩
    · exact .inr ⟨g, undef, rfl, hg, .inl ⟨rfl, (hb.block g hg).trans h⟩⟩
    · refine .inr ⟨g, u, rfl, hg, .inr ⟨l, rfl, (hb.block g hg).trans h, ?_, hB⟩⟩
      obtain ⟨a, c, rfl, h1, h2, h3, h4⟩ := hy
      refine ⟨a, c, rfl, h1, h2, h3, ?_⟩
      by_cases hl : l = []
      · exact .inl hl
      · rcases h4 with h4 | ⟨k, i, rfl, h4⟩
        · exact .inl h4
        · exact .inr ⟨k, i, rfl, fun j x hx => by
            obtain ⟨y, hy, hr⟩ := h4 j x hx
            exact ⟨y, (hb.cell (p := ⟨k, i + j, none⟩) (hB _ _ _ _ hl rfl)).trans hy, hr⟩⟩

theorem take_fin {B : Nat} {w W w1 w' : World} {v : Value} {o' : Option (List UInt8)} (hr1 : RdAt B w1 v o') (hB : B ≤ w.heap.size) (hbW : Below w.heap.size w W) (ht : Turned W w1 v) (hb : Below w.heap.size w1 w') :
    RdAt B w' v o' ∧ Turned w w' v :=
  ⟨hr1.low (hb.mono hB), hb.os.trans (ht.os.trans hbW.os), hb.tape.trans (ht.tape.trans hbW.tape), hb.output.trans (ht.output.trans hbW.output), Nat.le_trans hbW.size (Nat.le_trans ht.size hb.size),
    fun k hk hn => (hb.block k hk).trans ((Only.block ht k (Nat.lt_of_lt_of_le hk hbW.size) hn).trans (hbW.block k hk))⟩

/-- three structs in three new blocks -/
theorem three_new (w : World) (x y z : Obj) : ((((w.alloc x).alloc y).alloc z).heap[w.heap.size + 1]? = some y) ∧ ((((w.alloc x).alloc y).alloc z).heap[w.heap.size + 1 + 1]? = some z) := by
  constructor
  · exact ((bal (bre _) z).block (w.heap.size + 1) (by simp)).trans (by have h := heap_alloc_new (w.alloc x) y; simpa using h)
  · have h := heap_alloc_new ((w.alloc x).alloc y) z; simpa using h

theorem bool_pick (b : Bool) : (if b then (1 : Nat) else 0) = 1 ∧ b = true ∨ (if b then (1 : Nat) else 0) = 0 ∧ b = false := by cases b <;> simp

set_option maxRecDepth 10000 in
set_option maxHeartbeats 1600000 in
theorem ltake_any (B : Nat) (v : Value) (o : Option (List UInt8)) (f : Fld) (w : World) (hr : RdAt B w v o) (hB : B ≤ w.heap.size) :
    Calls Try.prog 17 #[v, FldV f] w fun e w' => e = .returned (takeOf f o) ∧ RdAt B w' v (takeRest f o) ∧ Turned w w' v := by
  unfold takeOf takeRest
  have hne : ∀ k, w.heap.size ≤ k → v ≠ .pointer (some ⟨k, 0, none⟩) := by
    intro k hk e
    rcases hr.ptr with hp | ⟨g, hp, hg⟩
    · rw [hp] at e; cases e
    · rw [hp] at e; cases e; omega
  have HN := Lib.hid hne
  clear hne
  obtain ⟨kind, n, s, most, hk, hn, hm⟩ := f
  unfold FldV Fld.cells
  simp only
  have hcase : kind % 5 = 1 ∨ kind % 5 = 2 ∨ kind % 5 = 3 ∨ kind % 5 = 4 ∨ kind % 5 = 0 := by omega
  rcases hcase with h | h | h | h | h
  · rw [if_pos h, if_pos h]
    go_enter Try.func17, Try.ntmps17
    go_wp2_with fail
    obtain ⟨hG1, hG2⟩ := three_new w (.cells #[.int .u8 kind, .int .u64 n, .string s, .int .u64 most] 40) (.cells #[.int .u8 0, .int .u64 0, .string ⟨#[]⟩, .int .u64 0] 40) (.cells #[.int .u8 kind, .int .u64 0, .string ⟨#[]⟩, .int .u64 most] 40)
    have hbW := bal (bal (bal (bre w) (.cells #[.int .u8 kind, .int .u64 n, .string s, .int .u64 most] 40)) (.cells #[.int .u8 0, .int .u64 0, .string ⟨#[]⟩, .int .u64 0] 40)) (.cells #[.int .u8 kind, .int .u64 0, .string ⟨#[]⟩, .int .u64 most] 40)
    generalize (((w.alloc (.cells #[.int .u8 kind, .int .u64 n, .string s, .int .u64 most] 40)).alloc (.cells #[.int .u8 0, .int .u64 0, .string ⟨#[]⟩, .int .u64 0] 40)).alloc (.cells #[.int .u8 kind, .int .u64 0, .string ⟨#[]⟩, .int .u64 most] 40)) = W at *
    refine (rint_any B v o W (hr.keep hbW)).mono ?_
    rintro e w1 ⟨rfl, hr1, ht1⟩
    obtain ⟨c0, c1, c2, c3, fr⟩ := row4 (ht1.block hG1 (HN.out _ (by omega)))
    obtain ⟨d0, d1, d2, d3, gr⟩ := row4 (ht1.block hG2 (HN.out _ (by omega)))
    clear hG1 hG2
    have hle : w.heap.size ≤ w.heap.size + 1 := by omega
    generalize w.heap.size + 1 = b1 at *
    go_wp2_with fail
    refine bodyPost_ret (v := .agg #[.int .u8 kind, .int .u64 (IntKind.u64.wrap (Rd.int o).1), .string ⟨#[]⟩, .int .u64 most]) (by simp [results, Try.results17, go_sem, c0, c1, c2, c3]) rfl ⟨rfl, ?_⟩
    exact take_fin hr1 hB hbW ht1 (bset (bset (bset (bset (bset (Below.refl _ _) _ _ _ (by omega)) _ _ _ (by omega)) _ _ _ (by omega)) _ _ _ (by omega)) _ _ _ (by omega))
  · rw [if_neg (by omega), if_pos h, if_neg (by omega), if_pos h]
    go_enter Try.func17, Try.ntmps17
    go_wp2_with fail
    obtain ⟨hG1, hG2⟩ := three_new w (.cells #[.int .u8 kind, .int .u64 n, .string s, .int .u64 most] 40) (.cells #[.int .u8 0, .int .u64 0, .string ⟨#[]⟩, .int .u64 0] 40) (.cells #[.int .u8 kind, .int .u64 0, .string ⟨#[]⟩, .int .u64 most] 40)
    have hbW := bal (bal (bal (bre w) (.cells #[.int .u8 kind, .int .u64 n, .string s, .int .u64 most] 40)) (.cells #[.int .u8 0, .int .u64 0, .string ⟨#[]⟩, .int .u64 0] 40)) (.cells #[.int .u8 kind, .int .u64 0, .string ⟨#[]⟩, .int .u64 most] 40)
    generalize (((w.alloc (.cells #[.int .u8 kind, .int .u64 n, .string s, .int .u64 most] 40)).alloc (.cells #[.int .u8 0, .int .u64 0, .string ⟨#[]⟩, .int .u64 0] 40)).alloc (.cells #[.int .u8 kind, .int .u64 0, .string ⟨#[]⟩, .int .u64 most] 40)) = W at *
    refine (rtext_any B v o (most % 1000) W (by omega) (hr.keep hbW)).mono ?_
    rintro e w1 ⟨rfl, hr1, ht1⟩
    obtain ⟨c0, c1, c2, c3, fr⟩ := row4 (ht1.block hG1 (HN.out _ (by omega)))
    obtain ⟨d0, d1, d2, d3, gr⟩ := row4 (ht1.block hG2 (HN.out _ (by omega)))
    clear hG1 hG2
    have hle : w.heap.size ≤ w.heap.size + 1 := by omega
    generalize w.heap.size + 1 = b1 at *
    go_wp2_with fail
    refine bodyPost_ret (v := .agg #[.int .u8 kind, .int .u64 0, .string (strOf (Rd.text (most % 1000) o).1), .int .u64 most]) (by simp [results, Try.results17, go_sem, c0, c1, c2, c3]) rfl ⟨rfl, ?_⟩
    exact take_fin hr1 hB hbW ht1 (bset (bset (bset (bset (bset (Below.refl _ _) _ _ _ (by omega)) _ _ _ (by omega)) _ _ _ (by omega)) _ _ _ (by omega)) _ _ _ (by omega))
  · rw [if_neg (by omega), if_neg (by omega), if_pos h, if_neg (by omega), if_neg (by omega), if_pos h]
    go_enter Try.func17, Try.ntmps17
    go_wp2_with fail
    obtain ⟨hG1, hG2⟩ := three_new w (.cells #[.int .u8 kind, .int .u64 n, .string s, .int .u64 most] 40) (.cells #[.int .u8 0, .int .u64 0, .string ⟨#[]⟩, .int .u64 0] 40) (.cells #[.int .u8 kind, .int .u64 0, .string ⟨#[]⟩, .int .u64 most] 40)
    have hbW := bal (bal (bal (bre w) (.cells #[.int .u8 kind, .int .u64 n, .string s, .int .u64 most] 40)) (.cells #[.int .u8 0, .int .u64 0, .string ⟨#[]⟩, .int .u64 0] 40)) (.cells #[.int .u8 kind, .int .u64 0, .string ⟨#[]⟩, .int .u64 most] 40)
    generalize (((w.alloc (.cells #[.int .u8 kind, .int .u64 n, .string s, .int .u64 most] 40)).alloc (.cells #[.int .u8 0, .int .u64 0, .string ⟨#[]⟩, .int .u64 0] 40)).alloc (.cells #[.int .u8 kind, .int .u64 0, .string ⟨#[]⟩, .int .u64 most] 40)) = W at *
    refine (rbyte_any B v o W (hr.keep hbW)).mono ?_
    rintro e w1 ⟨rfl, hr1, ht1⟩
    obtain ⟨c0, c1, c2, c3, fr⟩ := row4 (ht1.block hG1 (HN.out _ (by omega)))
    obtain ⟨d0, d1, d2, d3, gr⟩ := row4 (ht1.block hG2 (HN.out _ (by omega)))
    clear hG1 hG2
    have hle : w.heap.size ≤ w.heap.size + 1 := by omega
    generalize w.heap.size + 1 = b1 at *
    have hlt : (Rd.take o).1.toNat < 256 := (Rd.take o).1.toNat_lt
    go_wp2_with fail
    refine bodyPost_ret (v := .agg #[.int .u8 kind, .int .u64 (Rd.take o).1.toNat, .string ⟨#[]⟩, .int .u64 most]) (by simp [results, Try.results17, go_sem, c0, c1, c2, c3]) rfl ⟨rfl, ?_⟩
    exact take_fin hr1 hB hbW ht1 (bset (bset (bset (bset (bset (Below.refl _ _) _ _ _ (by omega)) _ _ _ (by omega)) _ _ _ (by omega)) _ _ _ (by omega)) _ _ _ (by omega))
  · rw [if_neg (show ¬ kind % 5 = 1 by omega), if_neg (show ¬ kind % 5 = 2 by omega), if_neg (show ¬ kind % 5 = 3 by omega), if_pos h, if_neg (show ¬ kind % 5 = 1 by omega), if_neg (show ¬ kind % 5 = 2 by omega), if_neg (show ¬ kind % 5 = 3 by omega), if_pos h]
    go_enter Try.func17, Try.ntmps17
    go_wp2_with fail
    obtain ⟨hG1, hG2⟩ := three_new w (.cells #[.int .u8 kind, .int .u64 n, .string s, .int .u64 most] 40) (.cells #[.int .u8 0, .int .u64 0, .string ⟨#[]⟩, .int .u64 0] 40) (.cells #[.int .u8 kind, .int .u64 0, .string ⟨#[]⟩, .int .u64 most] 40)
    have hbW := bal (bal (bal (bre w) (.cells #[.int .u8 kind, .int .u64 n, .string s, .int .u64 most] 40)) (.cells #[.int .u8 0, .int .u64 0, .string ⟨#[]⟩, .int .u64 0] 40)) (.cells #[.int .u8 kind, .int .u64 0, .string ⟨#[]⟩, .int .u64 most] 40)
    generalize (((w.alloc (.cells #[.int .u8 kind, .int .u64 n, .string s, .int .u64 most] 40)).alloc (.cells #[.int .u8 0, .int .u64 0, .string ⟨#[]⟩, .int .u64 0] 40)).alloc (.cells #[.int .u8 kind, .int .u64 0, .string ⟨#[]⟩, .int .u64 most] 40)) = W at *
    refine (rbool_any B v o W (hr.keep hbW)).mono ?_
    rintro e w1 ⟨rfl, hr1, ht1⟩
    obtain ⟨c0, c1, c2, c3, fr⟩ := row4 (ht1.block hG1 (HN.out _ (by omega)))
    obtain ⟨d0, d1, d2, d3, gr⟩ := row4 (ht1.block hG2 (HN.out _ (by omega)))
    clear hG1 hG2
    have hle : w.heap.size ≤ w.heap.size + 1 := by omega
    generalize w.heap.size + 1 = b1 at *
    cases hb : (Rd.bool o).1
    · go_wp2_with fail
      all_goals
        refine bodyPost_ret (v := .agg #[.int .u8 kind, .int .u64 0, .string ⟨#[]⟩, .int .u64 most]) (by simp [results, Try.results17, go_sem, c0, c1, c2, c3]) rfl ⟨rfl, ?_⟩
        exact take_fin hr1 hB hbW ht1 (bset (bset (bset (bset (Below.refl _ _) _ _ _ (by omega)) _ _ _ (by omega)) _ _ _ (by omega)) _ _ _ (by omega))
    · go_wp2_with fail
      all_goals
        refine bodyPost_ret (v := .agg #[.int .u8 kind, .int .u64 1, .string ⟨#[]⟩, .int .u64 most]) (by simp [results, Try.results17, go_sem, c0, c1, c2, c3]) rfl ⟨rfl, ?_⟩
        exact take_fin hr1 hB hbW ht1 (bset (bset (bset (bset (bset (Below.refl _ _) _ _ _ (by omega)) _ _ _ (by omega)) _ _ _ (by omega)) _ _ _ (by omega)) _ _ _ (by omega))
  · rw [if_neg (by omega), if_neg (by omega), if_neg (by omega), if_neg (by omega), if_neg (by omega), if_neg (by omega), if_neg (by omega), if_neg (by omega)]
    go_enter Try.func17, Try.ntmps17
    go_wp2_with fail
    obtain ⟨hG1, hG2⟩ := three_new w (.cells #[.int .u8 kind, .int .u64 n, .string s, .int .u64 most] 40) (.cells #[.int .u8 0, .int .u64 0, .string ⟨#[]⟩, .int .u64 0] 40) (.cells #[.int .u8 kind, .int .u64 0, .string ⟨#[]⟩, .int .u64 most] 40)
    have hbW := bal (bal (bal (bre w) (.cells #[.int .u8 kind, .int .u64 n, .string s, .int .u64 most] 40)) (.cells #[.int .u8 0, .int .u64 0, .string ⟨#[]⟩, .int .u64 0] 40)) (.cells #[.int .u8 kind, .int .u64 0, .string ⟨#[]⟩, .int .u64 most] 40)
    generalize (((w.alloc (.cells #[.int .u8 kind, .int .u64 n, .string s, .int .u64 most] 40)).alloc (.cells #[.int .u8 0, .int .u64 0, .string ⟨#[]⟩, .int .u64 0] 40)).alloc (.cells #[.int .u8 kind, .int .u64 0, .string ⟨#[]⟩, .int .u64 most] 40)) = W at *
    refine (rnum_any B v o most W (hr.keep hbW)).mono ?_
    rintro e w1 ⟨rfl, hr1, ht1⟩
    obtain ⟨c0, c1, c2, c3, fr⟩ := row4 (ht1.block hG1 (HN.out _ (by omega)))
    obtain ⟨d0, d1, d2, d3, gr⟩ := row4 (ht1.block hG2 (HN.out _ (by omega)))
    clear hG1 hG2
    have hle : w.heap.size ≤ w.heap.size + 1 := by omega
    generalize w.heap.size + 1 = b1 at *
    go_wp2_with fail
    refine bodyPost_ret (v := .agg #[.int .u8 kind, .int .u64 (Rd.num most o).1, .string ⟨#[]⟩, .int .u64 most]) (by simp [results, Try.results17, go_sem, c0, c1, c2, c3]) rfl ⟨rfl, ?_⟩
    exact take_fin hr1 hB hbW ht1 (bset (bset (bset (bset (bset (Below.refl _ _) _ _ _ (by omega)) _ _ _ (by omega)) _ _ _ (by omega)) _ _ _ (by omega)) _ _ _ (by omega))
end Go.Proofs.Ytddhnenlfdpomaa
