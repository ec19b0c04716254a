/- Walks: Table.Sum. -/
import Derived.Test.YtejdlgfiiagcmaaDoorSumB
import Derived.Test.YtejdlgfiiagcmaaDoorBase
namespace Go.Proofs.YtejdlgfiiagcmaaDoor
open Go.RowKit

def nats (l : List UInt8) : List Nat := l.map (·.toNat)
def crc8 (l : List UInt8) : Nat := Crc.crc (nats l)
def st (l : List UInt8) : Nat := Crc.run Crc.ones (nats l)
theorem st_lt (l : List UInt8) : st l < 4294967296 :=
  Crc.run_lt (fun b hb => by simp [nats] at hb; obtain ⟨x, _, rfl⟩ := hb; exact x.toNat_lt) (by decide)
theorem st_snoc (l : List UInt8) (b : UInt8) : st (l ++ [b]) = Crc.step (st l) b.toNat := by
  simp [st, nats, Crc.run]

theorem flat_snoc (ls : List (List UInt8)) (k : Nat) (h : k < ls.length) : (ls.take (k + 1)).flatten = (ls.take k).flatten ++ ls[k] := by
  rw [List.take_succ_eq_append_getElem h, List.flatten_append]; simp

theorem not32 (s : Nat) (hs : s < 4294967296) : bits .xor .u32 IntKind.u32.max (s : Int) = ((s ^^^ Crc.ones : Nat) : Int) := by
  have e : IntKind.u32.max = ((4294967295 : Nat) : Int) := by decide
  rw [e, xor32 _ _ (by decide) hs, Nat.xor_comm]
  rfl

theorem tab_go (s : Nat) (b : UInt8) (hs : s < 4294967296) : Value.int .u32 (bits .xor .u32 ((s : Int) / 256) ((Crc.step 0 (s % 256 ^^^ b.toNat) : Nat) : Int)) = .int .u32 ((Crc.step s b.toNat : Nat) : Int) := by
  have h1 : (s : Int) / 256 = ((s / 256 : Nat) : Int) := by omega
  have hb := b.toNat_lt
  rw [h1, xor32 _ _ (by omega) (Crc.step_lt (by decide) (Nat.xor_lt_two_pow (n := 8) (by omega) (by omega))), Crc.step_table s]

set_option maxRecDepth 10000 in
set_option maxHeartbeats 400000 in
theorem sum_any (v : Value) (ls : List (List UInt8)) (w : World) (hv : Rows8 w v ls) :
    Calls Tryd.prog 60 #[.agg tab, v] w fun e w' => e = .returned (.int .u32 (crc8 ls.flatten : Nat)) ∧ w' = w.alloc (.cells tab 100) := by
  obtain ⟨a, c, rfl, hm, hc, _, hrow⟩ := hv
  unfold maxLen at hm
  have HR := Lib.hid hrow
  clear hrow
  have hbox : (w.alloc (.cells tab 100)).heap[w.heap.size]? = some (.cells tab 100 (0, 0)) := heap_alloc_new w _
  have HB := Lib.hid hbox
  clear hbox
  go_enter Tryd.func60, Tryd.ntmps60
  go_wp2
  go_loop [5, 7, 9, 12] (fun c _ _ i => ∃ k : Nat, k ≤ ls.length ∧ i = .int .i64 k ∧ c = .int .u32 (st (ls.take k).flatten : Nat)) (fun _ _ _ i => ls.length - (intOf i).toNat)
  case atStart => exact ⟨0, by omega, rfl, rfl⟩
  case round =>
    obtain ⟨k, hk, rfl, rfl⟩ := hrel
    by_cases hlt : k < ls.length
    · rcases HR.out with h0 | ⟨g, o, rfl, hcell⟩
      · subst h0; simp at hlt
      · obtain ⟨u, hu, a2, c2, rfl, hm2, hc2, _, hrow2⟩ := hcell k _ (List.getElem?_eq_getElem hlt)
        clear hcell
        have HR2 := Lib.hid hrow2
        clear hrow2
        have hg : g < w.heap.size := block_lt_of_cell hu
        unfold maxLen at hm2
        have hfl := flat_snoc ls k hlt
        have HF := Lib.hid hfl
        clear hfl
        go_wp2
        go_loop [5, 9, 18] (fun c _ i => ∃ j : Nat, j ≤ ls[k].length ∧ i = .int .i64 j ∧ c = .int .u32 (st ((ls.take k).flatten ++ ls[k].take j) : Nat)) (fun _ _ i => ls[k].length - (intOf i).toNat)
        case atStart => exact ⟨0, by omega, rfl, by simp⟩
        case round =>
          obtain ⟨j, hj, rfl, rfl⟩ := hrel
          by_cases hlt2 : j < ls[k].length
          · rcases HR2.out with h0 | ⟨g2, o2, rfl, hcell2⟩
            · simp [h0] at hlt2
            · obtain ⟨_, hu2, rfl⟩ := hcell2 j _ (List.getElem?_eq_getElem hlt2)
              unfold B8 at hu2
              clear hcell2
              have hg2 : g2 < w.heap.size := block_lt_of_cell hu2
              have hs := st_lt ((ls.take k).flatten ++ ls[k].take j)
              have hts := st_snoc ((ls.take k).flatten ++ ls[k].take j) ls[k][j]
              rw [List.append_assoc, ← take_snoc_u8 _ _ hlt2] at hts
              have HT := Lib.hid hts
              clear hts hu
              generalize st ((ls.take k).flatten ++ ls[k].take j) = s at *
              have hb := ls[k][j].toNat_lt
              have hx8 : bits .xor .u8 ((s : Int) % 256) (ls[k][j].toNat : Int) = ((s % 256 ^^^ ls[k][j].toNat : Nat) : Int) := u8_xor_nat (s % 256) _ (by omega) hb
              have hxl : s % 256 ^^^ ls[k][j].toNat < 256 := Nat.xor_lt_two_pow (n := 8) (by omega) hb
              have htab := get_tab _ hxl
              have hgo := tab_go s ls[k][j] hs
              have HG := Lib.hid hgo
              clear hgo
              go_wp2
              go_round
              case rel => exact ⟨j + 1, by omega, by go_num, by rw [HT.out, ← HG.out]⟩
              case measure => simp [intOf]; omega
          · have e : j = ls[k].length := by omega
            subst e
            go_wp2
            go_round
            case rel => exact ⟨k + 1, by omega, by go_num, by rw [HF.out, List.take_length]⟩
            case measure => simp [intOf]; omega
    · have e : k = ls.length := by omega
      subst e
      have hs := st_lt ls.flatten
      have hn := not32 (st ls.flatten) hs
      have HN := Lib.hid hn
      clear hn
      rw [List.take_length]
      go_wp2
      go_ret
      refine ⟨?_, rfl⟩
      show Ending.returned (.int .u32 (bits .xor .u32 IntKind.u32.max (st ls.flatten : Int))) = _
      rw [HN.out]
      rfl
theorem sum_below (v : Value) (ls : List (List UInt8)) (w : World) (hv : Rows8 w v ls) :
    Calls Tryd.prog 60 #[.agg tab, v] w fun e w' => e = .returned (.int .u32 (crc8 ls.flatten : Nat)) ∧ Below w.heap.size w w' :=
  (sum_any v ls w hv).mono fun _ _ ⟨h1, h2⟩ => ⟨h1, h2 ▸ bal (bre w) _⟩
end Go.Proofs.YtejdlgfiiagcmaaDoor
