/- Walks: a writer's Num. -/
import Derived.Test.YtminfdlhbecnhaaGreatDoorWriter
import Derived.Test.YtminfdlhbecnhaaGreatDoorVarint
namespace Go.Proofs.YtminfdlhbecnhaaGreatDoor
open Go.RowKit

theorem WriterAt.below {base : Nat} {w w' : World} {g : Nat} {l : List UInt8} (h : WriterAt base w g l) (hb : Below w.heap.size w w') : WriterAt base w' g l := by
  obtain ⟨v, hg, hown⟩ := h
  exact ⟨v, (hb.block g (Array.getElem?_eq_some_iff.1 hg).1).trans hg, Own8.kept hown (Nat.le_refl _) hb⟩
theorem WriterAt.lt {base : Nat} {w : World} {g : Nat} {l : List UInt8} (h : WriterAt base w g l) : g < w.heap.size := by
  obtain ⟨v, hg, _⟩ := h
  exact (Array.getElem?_eq_some_iff.1 hg).1
theorem Grew.of_below {w w' : World} {g : Nat} (hb : Below w.heap.size w w') (hg : g < w.heap.size) : Grew w w' g :=
  ⟨Only.of_below hb _, .inl (by unfold slotBlock; rw [hb.cell (p := ⟨g, 0, none⟩) hg])⟩
theorem Grew.size {w w' : World} {g : Nat} (h : Grew w w' g) : w.heap.size ≤ w'.heap.size := h.only.size

theorem or128 (n : Nat) : bits .or .u8 ((n : Int) % 256) 128 = ((UInt8.ofNat (n % 128 + 128)).toNat : Int) := by
  have h1 : (n : Int) % 256 = ((n % 256 : Nat) : Int) := by omega
  rw [h1, UInt8.toNat_ofNat_of_lt' (show n % 128 + 128 < UInt8.size by simp [UInt8.size]; omega)]
  have h2 : bits .or .u8 ((n % 256 : Nat) : Int) 128 = ((n % 256 ||| 128 : Nat) : Int) := u8_or_nat (n % 256) 128 (by omega) (by omega)
  have h3 : n % 256 ||| 128 = n % 128 + 128 := by
    apply Nat.eq_of_testBit_eq
    intro i
    have e : n % 128 + 128 = 2 ^ 7 * 1 + n % 2 ^ 7 := by omega
    rw [e, Nat.testBit_or, show (256 : Nat) = 2 ^ 8 by decide, Nat.testBit_mod_two_pow, show (128 : Nat) = 2 ^ 7 by decide, Nat.testBit_two_pow, Nat.testBit_two_pow_mul_add _ (Nat.mod_lt _ (by decide)), Nat.testBit_mod_two_pow]
    by_cases h7 : i < 7
    · have : ¬ 7 = i := by omega
      simp [h7, this, show i < 8 by omega]
    · by_cases h : i = 7
      · subst h; simp
      · have h8 : ¬ i < 8 := by omega
        have h9 : ¬ 7 = i := by omega
        have h10 : Nat.testBit 1 (i - 7) = false := by
          rw [show (1 : Nat) = 2 ^ 0 by decide, Nat.testBit_two_pow]; simp; omega
        simp [h7, h8, h9, h10]
  rw [h2, h3]

set_option maxRecDepth 10000 in
set_option maxHeartbeats 400000 in
theorem num_any (base g : Nat) (l : List UInt8) (n : Nat) (w : World) (hn : n < 18446744073709551616) (hw : WriterAt base w g l) (hbig : l.length + 10 ≤ 140737488355328) (hbase : base ≤ w.heap.size) :
    Calls Tryz.prog 25 #[.pointer (some ⟨g, 0, none⟩), .int .u64 n] w fun e w' =>
      e = .returned (.pointer (some ⟨g, 0, none⟩)) ∧ WriterAt base w' g (l ++ Vi.varint n) ∧ Grew w w' g := by
  go_enter Tryz.func25, Tryz.ntmps25
  go_wp2
  go_loopw [1] (fun c wr => ∃ (m : Nat) (p : List UInt8), c = .int .u64 m ∧ m < 18446744073709551616 ∧ Hid (p ++ Vi.varint m = Vi.varint n) ∧ WriterAt base wr g (l ++ p) ∧ Grew w wr g) (fun c _ => (intOf c).toNat)
  case atStart => exact ⟨n, [], rfl, hn, Lib.hid rfl, by simpa using hw, Grew.refl _ _⟩
  case round =>
    obtain ⟨m, p, rfl, hm, HP, hwr, hgr⟩ := hrel
    have hplen : p.length ≤ 9 := by
      have h := congrArg List.length HP.out
      rw [List.length_append] at h
      have h1 := (Vi.varint_length n).2
      have h2 := (Vi.varint_length m).1
      omega
    have hlt := hwr.lt
    have hsz := hgr.size
    by_cases h128 : 128 ≤ m
    · have hst := Vi.varint_step h128 hm
      have hor := or128 m
      have HS := Lib.hid hst
      clear hst
      have hwa := hwr.below (bal (bre wr) (.cells #[.int .u8 ((UInt8.ofNat (m % 128 + 128)).toNat : Int)] 5))
      have hga := hgr.trans (Grew.of_below (bal (bre wr) (.cells #[.int .u8 ((UInt8.ofNat (m % 128 + 128)).toNat : Int)] 5)) hlt)
      have hb1 := bytes_one wr (UInt8.ofNat (m % 128 + 128)) 5
      unfold B8 at hb1
      generalize UInt8.ofNat (m % 128 + 128) = b at *
      have hlen : (l ++ p).length + [b].length ≤ 140737488355328 := by simp; omega
      have hbs : base ≤ (wr.alloc (.cells #[.int .u8 (b.toNat : Int)] 5)).heap.size := by simp; omega
      clear hwr hgr
      go_wp2_with (go_at_call 48; refine (add_any base g (l ++ p) _ [b] _ hwa hb1 hlen hbs).mono ?_; rintro e w2 ⟨rfl, hw2, hg2⟩)
      have hgn := hga.trans hg2
      clear hga hg2 hwa hb1 hlen hbs hor
      go_roundw
      case rel => exact ⟨m / 128, p ++ [b], by go_num, by omega, Lib.hid (by rw [← HP.out, HS.out]; simp), by simpa using hw2, hgn⟩
      case measure => simp [intOf]; omega
    · have hst := Vi.varint_small (show m < 128 by omega)
      have h8 : ((UInt8.ofNat m).toNat : Int) = (m : Int) := by
        rw [UInt8.toNat_ofNat_of_lt' (show m < UInt8.size by simp [UInt8.size]; omega)]
      have HS := Lib.hid hst
      clear hst
      have hwa := hwr.below (bal (bre wr) (.cells #[.int .u8 (m : Int)] 5))
      have hga := hgr.trans (Grew.of_below (bal (bre wr) (.cells #[.int .u8 (m : Int)] 5)) hlt)
      have hb1 := bytes_one wr (UInt8.ofNat m) 5
      unfold B8 at hb1
      rw [h8] at hb1
      have hlen : (l ++ p).length + [UInt8.ofNat m].length ≤ 140737488355328 := by simp; omega
      have hbs : base ≤ (wr.alloc (.cells #[.int .u8 (m : Int)] 5)).heap.size := by simp; omega
      clear hwr hgr h8
      go_wp2_with (go_at_call 48; refine (add_any base g (l ++ p) _ [UInt8.ofNat m] _ hwa hb1 hlen hbs).mono ?_; rintro e w2 ⟨rfl, hw2, hg2⟩)
      have hgn := hga.trans hg2
      go_ret
      refine ⟨rfl, ?_, hgn⟩
      rw [← HP.out, HS.out, ← List.append_assoc]
      exact hw2
end Go.Proofs.YtminfdlhbecnhaaGreatDoor
