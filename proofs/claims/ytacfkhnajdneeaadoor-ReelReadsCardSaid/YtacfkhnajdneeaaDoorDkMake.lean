/- Walks: slices.Clone of a disk's parts; a new disk. -/
import Derived.Test.YtacfkhnajdneeaaDoorDkNow
import Derived.Test.YtacfkhnajdneeaaDoorPreA
import Derived.OwnWalk
namespace Go.Proofs.YtacfkhnajdneeaaDoor
open Go.RowKit

set_option maxRecDepth 10000 in
set_option maxHeartbeats 400000 in
theorem cloneS_any (v : Value) (n : Nat) (xs : List Value) (w : World) (hv : w.ownsRow 0 104 512 v n xs) (hn : n ≤ 10000000) (h1 : ∀ u ∈ xs, u.oneCell' = true) :
    Calls Tryd.prog 56 #[v] w fun e w' => ∃ v', e = .returned v' ∧ w'.ownsRow w.heap.size 104 512 v' n xs ∧ Below w.heap.size w w' := by
  have hlies := ownsRow_lies hv
  have hlen := hv.1
  have hb := bal (bre w) (.cells #[] 104)
  have hv2 := ownsRow_lies (World.ownsRow.alloc hv (.cells #[] 104))
  obtain ⟨a, c, rfl, hc, hm, hnil, _, _⟩ := hlies
  obtain ⟨a', c', e', _, _, _, hlz, _⟩ := hv2
  cases e'
  have hown : (w.alloc (.cells #[] 104)).ownsRow w.heap.size 104 512 (.slice (some ⟨w.heap.size, 0, none⟩) 0 0) 0 [] := World.ownsRow_made w #[] 0 (Nat.le_refl _) (by simp [maxLen]) (by simp)
  have he := fun (w : World) (a : Option Addr) (n c n' c' : Nat) => Lib.run_eql_slice_nil (P := Tryd.prog) w 93 104 a n c n' c' Tryd.underlying93
  have HL := Lib.hid hlz
  have HO := Lib.hid hown
  have HN := Lib.hid hlen
  have H1 := Lib.hid h1
  clear hlz hown hv hlen h1
  cases a with
  | none =>
    have hc0 := hnil rfl
    subst hc0
    have hn0 : n = 0 := by omega
    subst hn0
    have hp : xs = [] := List.length_eq_zero_iff.1 (by have := HN.out; omega)
    subst hp
    go_enter Tryd.func56, Tryd.ntmps56
    go_wp2
    go_ret
    exact ⟨_, rfl, World.ownsRow_nil _ _ _ _, Below.refl _ _⟩
  | some ad =>
    go_enter Tryd.func56, Tryd.ntmps56
    go_wp2_with (at_builtin; refine wpList_app rfl _ _ 93 104 512 512 rowS rfl w.heap.size _ 0 [] rfl HO.out _ n c xs rfl HN.out HL.out hc (fun h => by cases h) H1.out (by unfold maxLen; omega) (by omega) (by exact hb.size) ?_; intro v' w1 h1 _ h3)
    go_ret
    exact ⟨_, rfl, by simpa using h1, hb.trans h3⟩

theorem blank_len : blank512.length = 512 := by unfold blank512; exact List.length_replicate

theorem made_blank (n : Nat) : (madeCells (.agg (Array.replicate 512 (.int .u8 0)) : Value).cells (n * 512)).toList = (List.replicate n blank512).flatMap secCells := by
  have h1 : (madeCells (.agg (Array.replicate 512 (.int .u8 0)) : Value).cells (n * 512)).toList = List.replicate (n * 512) (.int .u8 0) := by
    show (madeCells (Array.replicate 512 (.int .u8 0)) (n * 512)).toList = _
    apply List.eq_replicate_iff.2
    refine ⟨by rw [Array.length_toList, size_madeCells], fun b hb => ?_⟩
    unfold madeCells at hb
    simp at hb
    obtain ⟨a, _, rfl⟩ := hb
    have : a % 512 < 512 := Nat.mod_lt _ (by omega)
    simp [this]
  have h2 : (List.replicate n blank512).flatMap secCells = List.replicate (n * 512) (.int .u8 0) := by
    apply List.eq_replicate_iff.2
    refine ⟨?_, fun b hb => ?_⟩
    · rw [flat_length' secCells 512 _ (fun x hx => by rw [List.eq_of_mem_replicate hx]; unfold secCells; rw [List.length_map]; exact blank_len), List.length_replicate]
    · obtain ⟨s, hs, hb⟩ := List.mem_flatMap.1 hb
      rw [List.eq_of_mem_replicate hs] at hb
      unfold secCells blank512 at hb
      obtain ⟨x, hx, rfl⟩ := List.mem_map.1 hb
      rw [List.eq_of_mem_replicate hx]; rfl
  rw [h1, h2]

def Dk.new (n : Nat) : Dk := ⟨List.replicate n blank512, [], 0, false, 0⟩
theorem Dk.new_ok {n : Nat} (h : n ≤ 4096) : (Dk.new n).Ok := ⟨fun s hs => by rw [List.eq_of_mem_replicate hs]; exact blank_len, fun x hx => by simp [Dk.new] at hx, by simpa [Dk.new] using h⟩

set_option maxRecDepth 10000 in
set_option maxHeartbeats 800000 in
theorem new_any (n : Nat) (w : World) (h0 : 1 ≤ n) (h1 : n ≤ 4096) :
    Calls Tryd.prog 19 #[.int .i64 n] w fun e w' => ∃ g F, e = .returned (.tuple #[.pointer (some ⟨g, 0, none⟩), .int .i64 0]) ∧ DiskAt w' g (Dk.new n) F ∧ (∀ k, F k → w.heap.size ≤ k) ∧ Below w.heap.size w w' := by
  obtain ⟨i, z, hi, hz, hsz, hby, hzs⟩ := rowS.ex
  have hzc : z = .agg (Array.replicate 512 (.int .u8 0)) := by
    have hk : (Tryd.prog.info? 104).bind (·.zero) = some (.agg (Array.replicate 512 (.int .u8 0))) := by kernel_rfl
    rw [hi] at hk
    simp only [Option.bind_some] at hk
    rw [hz] at hk
    exact Option.some.inj hk
  have hn1 : (1 : Int) ≤ n := by omega
  have hn2 : (n : Int) ≤ 4096 := by omega
  go_enter Tryd.func19, Tryd.ntmps19
  go_wp2_with (refine wpList_make_full _ rfl _ _ 93 rfl w.heap.size 104 i z 512 Tryd.underlying93 hi hz hsz .i64 .i64 _ _ n rfl rfl rfl rfl (by rw [hby]; omega) (by unfold maxLen; omega) (Nat.le_refl _) ?_; intro w1 hown hgr)
  rw [hzc, made_blank] at hown
  go_ret2
  have hb1 : Below w.heap.size w w1 := ⟨hgr.os, hgr.tape, hgr.output, hgr.size, fun k hk => hgr.block k hk (by simp)⟩
  have hb2 := bal (bre w1) (.cells #[.slice (some ⟨w.heap.size, 0, none⟩) n n, .slice none 0 0, .int .i64 0, .bool false, .int .i64 0] 96)
  refine ⟨w1.heap.size, fun k => k = w1.heap.size ∨ k = w.heap.size, rfl, ⟨Dk.new_ok h1, _, _, heap_alloc_new w1 _, ?_, World.ownsRow_nil _ _ _ _, fun k => ?_⟩, fun k hk => ?_, btr hb1 hb2⟩
  · have : (Dk.new n).safe.length = n := by simp [Dk.new]
    rw [this]
    exact ownsRow_base (World.ownsRow.alloc hown _) (Nat.zero_le _)
  · simp [Value.ownBlock, eq_comm]
  · have := hb1.size
    rcases hk with rfl | rfl <;> omega

set_option maxRecDepth 10000 in
theorem new_no (n : Int) (w : World) (h : n < 1 ∨ 4096 < n) :
    Calls Tryd.prog 19 #[.int .i64 n] w fun e w' => e = .returned (.tuple #[.pointer none, .int .i64 1]) ∧ w' = w := by
  rcases (by omega : n < 1 ∨ (1 ≤ n ∧ 4096 < n)) with h | ⟨h, h'⟩
  all_goals
    go_enter Tryd.func19, Tryd.ntmps19
    go_wp2
    go_ret2
    exact ⟨rfl, rfl⟩
end Go.Proofs.YtacfkhnajdneeaaDoor
