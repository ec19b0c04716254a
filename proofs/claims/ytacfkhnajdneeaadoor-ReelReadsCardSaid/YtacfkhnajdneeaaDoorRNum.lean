/- Walks: the reference's Num and Value. -/
import Derived.Test.YtacfkhnajdneeaaDoorPreB
import Derived.Test.YtacfkhnajdneeaaDoorPreA
namespace Go.Proofs.YtacfkhnajdneeaaDoor
open Go.RowKit

/-- a number's bytes, the highest first -/
def bes : Nat → Nat → List UInt8
  | 0, _ => []
  | k + 1, n => bes k (n / 256) ++ [UInt8.ofNat (n % 256)]

theorem bes_length : ∀ k n, (bes k n).length = k
  | 0, _ => rfl
  | k + 1, n => by simp [bes, bes_length k]

theorem bes_four (n : Nat) : bes 4 n = be4 n := by
  simp only [bes, be4, List.nil_append, List.cons_append, Nat.div_div_eq_div_mul]
theorem bes_two (n : Nat) : bes 2 n = be2 n := by
  simp only [bes, be2, List.nil_append, List.cons_append]

theorem set_mid (k : Nat) (s : List UInt8) (b : UInt8) : (List.replicate (k + 1) 0 ++ s).set k b = List.replicate k 0 ++ b :: s := by
  rw [List.replicate_succ', List.append_assoc, List.set_append_right _ _ (by simp)]
  simp

structure NumRel (w W : World) (B size g c N : Nat) (k n : Nat) (s : List UInt8) (wr : World) : Prop where
  own : Own8 5 w.heap.size wr (.slice (some ⟨g, 0, none⟩) size c) (List.replicate k 0 ++ s)
  below : Below w.heap.size w wr
  all : bes size N = bes k n ++ s
  len : s.length + k = size

set_option maxRecDepth 10000 in
set_option maxHeartbeats 400000 in
theorem rfnum_any (N size : Nat) (hN : N < 18446744073709551616) (h1 : 1 ≤ size) (h2 : size ≤ 1000000) (w : World) :
    Calls Tryd.prog 60 #[.int .u64 N, .int .i64 size] w fun e w' => ∃ v', e = .returned v' ∧ Own8 5 w.heap.size w' v' (bes size N) ∧ Below w.heap.size w w' := by
  go_enter Tryd.func60, Tryd.ntmps60
  go_wp2_with (refine wpList_make8 rfl _ _ 23 5 make8 rfl size rfl rfl h2 (fun W how hbw => ?_))
  generalize hg : w.heap.size = g at how ⊢
  rw [hg] at hbw
  go_wp2
  go_loopw [0, 6] (fun a i wr => ∃ (k n : Nat) (s : List UInt8), i = .int .i64 ((k : Int) - 1) ∧ a = .int .u64 n ∧ n < 18446744073709551616 ∧ NumRel w W g size g size N k n s wr) (fun _ i _ => (intOf i + 1).toNat)
  case atStart => exact ⟨size, N, [], by go_num, rfl, hN, by rw [hg, List.append_nil]; exact how, by rw [hg]; exact hbw, by simp, by simp⟩
  case round =>
    obtain ⟨k, n, s, rfl, rfl, hn, hr⟩ := hrel
    rcases k with - | k
    · have hall := hr.all
      have hown := hr.own
      have hb := hr.below
      simp only [bes, List.nil_append, List.replicate_zero] at hall hown
      rw [← hall] at hown
      clear hr hall
      go_wp2
      go_ret
      exact ⟨_, rfl, hown, hb⟩
    · have hlt : ((k + 1 : Nat) : Int) - 1 = k := by omega
      rw [hlt]
      have hks : k < size := by have := hr.len; omega
      have hlen : (List.replicate (k + 1) (0 : UInt8) ++ s).length = size := by have := hr.len; simp; omega
      obtain ⟨hc, hf⟩ := hr.own.cell k (by omega)
      obtain ⟨u0, hu0⟩ : ∃ u, wr.cell? ⟨g, k, none⟩ = some u := ⟨_, hc⟩
      clear hc
      have hst := hr.own.store k (UInt8.ofNat (n % 256))
      rw [set_mid, B8_ofNat _ (by omega)] at hst
      have hall := hr.all
      simp only [bes, List.append_assoc, List.cons_append, List.nil_append] at hall
      have hl2 : (UInt8.ofNat (n % 256) :: s).length + k = size := by have := hr.len; simp; omega
      have hbl := hr.below
      have HST := Lib.hid hst
      have HALL := Lib.hid hall
      have HL2 := Lib.hid hl2
      have HBL := Lib.hid hbl
      clear hst hall hl2 hbl hr hlen
      go_wp2
      go_roundw
      case rel =>
        refine ⟨k, n / 256, UInt8.ofNat (n % 256) :: s, by go_num, by go_num, by omega, ?_, ?_, HALL.out, HL2.out⟩
        · exact HST.out.1
        · exact HBL.out.trans HST.out.2
      case measure => simp [intOf]; try omega

theorem val_lt : ∀ (l : List UInt8), val l < 256 ^ l.length := by
  intro l
  have key : ∀ (l : List UInt8) (a : Nat), l.foldl (fun n b => 256 * n + b.toNat) a < (a + 1) * 256 ^ l.length := by
    intro l
    induction l with
    | nil => intro a; simp
    | cons b l ih =>
      intro a
      have h := ih (256 * a + b.toNat)
      have hb := b.toNat_lt
      rw [List.foldl_cons, List.length_cons, Nat.pow_succ]
      refine Nat.lt_of_lt_of_le h ?_
      rw [Nat.mul_comm (256 ^ l.length) 256, ← Nat.mul_assoc]
      exact Nat.mul_le_mul_right _ (by omega)
  have := key l 0
  simpa [val] using this

theorem val_snoc (l : List UInt8) (b : UInt8) : val (l ++ [b]) = 256 * val l + b.toNat := by
  unfold val; rw [List.foldl_append]; rfl

set_option maxRecDepth 10000 in
set_option maxHeartbeats 400000 in
theorem rvalue_any (v : Value) (p : List UInt8) (w : World) (hv : Bytes w v p) (h8 : p.length ≤ 8) :
    Calls Tryd.prog 58 #[v] w fun e w' => e = .returned (.int .u64 (val p : Nat)) ∧ w' = w := by
  obtain ⟨a, c, rfl, hm, hc, -, hrow⟩ := hv
  have HR := Lib.hid hrow
  clear hrow hm
  go_enter Tryd.func58, Tryd.ntmps58
  go_wp2
  go_loop [3, 5, 8] (fun c _ i => ∃ k x : Nat, k ≤ p.length ∧ i = .int .i64 k ∧ Hid (x = val (p.take k)) ∧ c = .int .u64 x) (fun _ _ i => p.length - (intOf i).toNat)
  case atStart => exact ⟨0, 0, by omega, rfl, Lib.hid rfl, rfl⟩
  case round =>
    obtain ⟨k, x, hk, rfl, HX, rfl⟩ := hrel
    by_cases hlt : k < p.length
    · rcases HR.out with h0 | ⟨g, o, rfl, hcell⟩
      · subst h0; simp at hlt
      · obtain ⟨_, hu, rfl⟩ := hcell k _ (List.getElem?_eq_getElem hlt)
        clear hcell
        unfold B8 at hu
        have hts := val_snoc (p.take k) p[k]
        rw [← take_snoc_u8 _ _ hlt, ← HX.out] at hts
        have hxl := val_lt (p.take k)
        rw [← HX.out, List.length_take, Nat.min_eq_left hk] at hxl
        have hx7 : 256 ^ k ≤ 256 ^ 7 := Nat.pow_le_pow_right (by decide) (by omega)
        have hx : x < 72057594037927936 := by omega
        have HT := Lib.hid hts
        clear hts hxl hx7
        have hb := p[k].toNat_lt
        have h256 : (2 : Nat) ^ 8 = 256 := by decide
        rw [h256] at hb
        clear h256
        generalize p[k].toNat = b at *
        go_wp2
        go_round
        case rel => exact ⟨k + 1, 256 * x + b, by omega, by go_num, Lib.hid (by rw [HT.out]), by go_num⟩
        case measure => simp [intOf]; try omega
    · have e : k = p.length := by omega
      subst e
      have hl := HX.out
      rw [List.take_length] at hl
      have HF := Lib.hid hl
      clear hl HX
      go_wp2
      go_ret
      refine ⟨?_, rfl⟩
      rw [HF.out]
      rfl
end Go.Proofs.YtacfkhnajdneeaaDoor
