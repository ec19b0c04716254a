/- TapeSizes: a number has as many bytes as it has sevens of bits. -/
import Derived.Test.YtddhnenlfdpomaaAwakeT
namespace Go.Proofs.Ytddhnenlfdpomaa
open Go.RowKit

/-- bytes that lie below B -/
def Bin (B : Nat) (w : World) (v : Value) (l : List UInt8) : Prop := Bytes w v l ∧ ∀ k i n c, l ≠ [] → v = .slice (some ⟨k, i, none⟩) n c → k < B
theorem Bin.of {w : World} {v : Value} {l : List UInt8} (h : Bytes w v l) : Bin w.heap.size w v l := ⟨h, fun k i n c hl e => by subst e; exact bytes_lt h hl⟩
theorem Bin.mono {B B' : Nat} {w : World} {v : Value} {l : List UInt8} (h : Bin B w v l) (hB : B ≤ B') : Bin B' w v l := ⟨h.1, fun k i n c hl e => Nat.lt_of_lt_of_le (h.2 k i n c hl e) hB⟩
theorem Bin.below {B : Nat} {w w' : World} {v : Value} {l : List UInt8} (h : Bin B w v l) (hb : Below B w w') : Bin B w' v l :=
  ⟨h.1.only (S := fun k => ¬ k < B) ⟨hb.os, hb.tape, hb.output, hb.size, fun k _ hs => hb.block k (Decidable.not_not.1 hs)⟩ (fun g o n c hl e => fun hn => hn (h.2 g o n c hl e)), h.2⟩


set_option maxRecDepth 10000 in
set_option maxHeartbeats 1600000 in
theorem sizes_calls (n m : Nat) (i : Int) (w : World) (hn : n < 18446744073709551616) (hm : m < 18446744073709551616) (h0 : -9223372036854775808 ≤ i) (h1 : i ≤ 9223372036854775807) :
    Calls Try.prog 3 #[.int .u64 n, .int .u64 m, .int .i64 i] w fun e w' => e = .returned (.bool true) ∧ Below w.heap.size w w' := by
  go_enter Try.func3, Try.ntmps3
  go_wp2_with fail
  refine (awake_any w).mono ?_
  rintro e w1 ⟨rfl, hb1⟩
  go_wp2_with fail
  have hb2 := bal (bal (bal hb1 (.cells #[.slice none 0 0] 26)) (.cells #[.slice none 0 0] 26)) (.cells #[.slice none 0 0] 26)
  have hA := ((NilW.new w1 w1.heap.size rfl).below (bal (bre _) (.cells #[.slice none 0 0] 26))).below (bal (bre _) (.cells #[.slice none 0 0] 26))
  have hBn := (NilW.new (w1.alloc (.cells #[.slice none 0 0] 26)) (w1.heap.size + 1) (by simp)).below (bal (bre _) (.cells #[.slice none 0 0] 26))
  have hC := NilW.new ((w1.alloc (.cells #[.slice none 0 0] 26)).alloc (.cells #[.slice none 0 0] 26)) (w1.heap.size + 2) (by simp)
  have hs1 := hb1.size
  have hsz : w1.heap.size + 3 = (((w1.alloc (.cells #[.slice none 0 0] 26)).alloc (.cells #[.slice none 0 0] 26)).alloc (.cells #[.slice none 0 0] 26)).heap.size := by simp
  generalize ((w1.alloc (.cells #[.slice none 0 0] 26)).alloc (.cells #[.slice none 0 0] 26)).alloc (.cells #[.slice none 0 0] 26) = W at *
  generalize w1.heap.size = g at *
  have hln := (Vi.varint_length n).2
  have hlm := (Vi.varint_length m).2
  have hlz := (Vi.varint_length (zig i)).2
  refine (num_nil g n W hn hA).mono ?_
  rintro e w3 ⟨rfl, hw3, ho3⟩
  have hB3 := hBn.only ho3 (by omega)
  have hC3 := hC.only ho3 (by omega)
  have hb3 := ho3.below g (by omega) (by intro i hi h; omega)
  go_wp2_with fail
  refine (wbytes_any _ g _ w3 hw3 (by omega)).mono ?_
  rintro e w4 ⟨vx, rfl, hx, hb4⟩
  have hx4 := hx.bytes
  obtain ⟨ax, nx, cx, rfl⟩ := hx.isSlice
  have hB4 := hB3.below hb4
  have hC4 := hC3.below hb4
  have hs3 := hb3.size
  have hs4 := hb4.size
  clear hx hB3 hC3 hw3 hA hBn hC
  go_wp2_with fail
  refine (num_nil (g + 1) m w4 hm hB4).mono ?_
  rintro e w5 ⟨rfl, hw5, ho5⟩
  have hx5 := bytes_slot hB4 ho5 hx4
  have hC5 := hC4.only ho5 (by omega)
  have hb5 := ho5.below g (by omega) (by intro i hi h; omega)
  go_wp2_with fail
  refine (wbytes_any _ (g + 1) _ w5 hw5 (by omega)).mono ?_
  rintro e w6 ⟨vy, rfl, hy, hb6⟩
  have hy6 := hy.bytes
  obtain ⟨ay, ny, cy, rfl⟩ := hy.isSlice
  have hx6 := hx5.below hb6
  have hC6 := hC5.below hb6
  have hs5 := hb5.size
  have hs6 := hb6.size
  clear hy hC5 hw5 hx5 hx4 hB4 hC4
  go_wp2_with fail
  refine (int_nil (g + 2) i w6 h0 h1 hC6).mono ?_
  rintro e w7 ⟨rfl, hw7, ho7⟩
  have hx7 := bytes_slot hC6 ho7 hx6
  have hy7 := bytes_slot hC6 ho7 hy6
  have hb7 := ho7.below g (by omega) (by intro i hi h; omega)
  go_wp2_with fail
  refine (wbytes_any _ (g + 2) _ w7 hw7 (by omega)).mono ?_
  rintro e w8 ⟨vz, rfl, hz, hb8⟩
  have hz8 := hz.bytes
  obtain ⟨az, nz, cz, rfl⟩ := hz.isSlice
  have hx8 := hx7.below hb8
  have hy8 := hy7.below hb8
  have hs7 := hb7.size
  have hs8 := hb8.size
  have hbW : Below w.heap.size w w8 := hb2.trans ((hb3.trans ((hb4.mono (by omega)).trans (hb5.trans ((hb6.mono (by omega)).trans (hb7.trans (hb8.mono (by omega))))))).mono hs1)
  have hx9 := Bin.of hx8
  have hz9 := Bin.of hz8
  clear hz hw7 hx7 hx6 hy6 hy7 hC6 hb2 hb3 hb4 hb5 hb6 hb7 hb8 ho3 ho5 ho7
  obtain ⟨_, _, e1, _, _, _, _⟩ := hx8
  cases e1
  obtain ⟨_, _, e1, _, _, _, _⟩ := hy8
  cases e1
  obtain ⟨_, _, e1, _, _, _, _⟩ := hz8
  cases e1
  have HX := Lib.hid hx9
  have HZ := Lib.hid hz9
  have HW := Lib.hid hbW
  clear hx9 hz9 hbW
  have hlen := len_more hn
  have hmono := fun h : n ≤ m => len_mono m n h hm
  have hsz8 : w.heap.size ≤ w8.heap.size := by omega
  clear hs1 hsz hs3 hs4 hs5 hs6 hs7 hs8 hb1
  generalize hX : (Vi.varint n).length = X at *
  generalize hY : (Vi.varint m).length = Y at *
  generalize hZ : (Vi.varint (zig i)).length = Z at *
  have HHX := Lib.hid hX
  have HHL := Lib.hid hlen
  clear hX hY hZ hlen
  go_wp2
  go_loopw [13, 14] (fun s q wr => ∃ (s' q' : Nat), s = .int .i64 s' ∧ q = .int .u64 q' ∧ Hid (s' + moreOf q' = X) ∧ s' ≤ 10 ∧ q' < 18446744073709551616 ∧ wr = w8) (fun _ q _ => (intOf q).toNat)
  case atStart => exact ⟨1, n / 128, rfl, by go_num, Lib.hid HHL.out.symm, by omega, by omega, by first | rfl | trivial⟩
  case round =>
    obtain ⟨s', q', rfl, rfl, HS, hs10, hq64, rfl⟩ := hrel
    by_cases hq : 0 < q'
    · have hst := more_step hq hq64
      have HT := Lib.hid hst
      clear hst
      go_wp2
      go_roundw
      case rel =>
        have h1 := HS.out
        have h2 := HT.out
        have h3 : moreOf (q' / 128) + (s' + 1) = X := by omega
        exact ⟨s' + 1, q' / 128, by go_num, by go_num, Lib.hid (by omega), by omega, by omega, by first | rfl | trivial⟩
      case measure => simp [intOf]; omega
    · obtain rfl : q' = 0 := by omega
      have hsx : s' = X := HS.out
      subst hsx
      clear HS
      have hcmp : n ≤ m → s' ≤ Y := hmono
      have hnm : m < n ∨ (n ≤ m ∧ s' ≤ Y) := by omega
      have hn0 : n = 0 ∨ ∃ k, n = k + 1 := by
        cases n with
        | zero => exact .inl rfl
        | succ k => exact .inr ⟨k, rfl⟩
      clear hmono hcmp HHX HHL
      have hnum := fun most => num_varint n most [] hn
      simp only [List.append_nil] at hnum
      have hint : Rd.int (some (Vi.varint (zig i))) = (i, some []) := by
        have h := num_varint (zig i) 18446744073709551615 [] (zig_lt h0 h1)
        rw [if_pos (by have := zig_lt h0 h1; omega), List.append_nil] at h
        unfold Rd.int
        rw [h, zag_zig]
      have HN := Lib.hid hnum
      have HI := Lib.hid hint
      clear hnum hint
      rcases hnm with hnm | ⟨hnm, hxy⟩
      all_goals
        go_wp2_with fail
        refine (read_any _ _ wr HZ.out.1 (by have := (Vi.varint_length (zig i)).2; omega)).mono ?_
        rintro e wa ⟨ra, rfl, hra, hba, hka⟩
        have hxa := HX.out.below hba
        go_wp2_with fail
        refine (rint_any _ ra _ wa hra).mono ?_
        rintro e wb ⟨rfl, _, htb⟩
        have hbb := htb.base hka hba.size
        have hxb := hxa.below hbb
        rw [HI.out]
        go_wp2_with fail
        refine (read_any _ _ wb hxb.1 (by have := (Vi.varint_length n).2; omega)).mono ?_
        rintro e wc ⟨rc, rfl, hrc, hbc, hkc⟩
        have hsb : wr.heap.size ≤ wb.heap.size := Nat.le_trans hba.size hbb.size
        have hxc := hxb.below (hbc.mono hsb)
        go_wp2_with fail
        refine (rnum_any _ rc _ n wc hrc).mono ?_
        rintro e wd ⟨rfl, _, htd⟩
        have hbd := htd.base hkc hbc.size
        have hxd := hxc.below (hbd.mono hsb)
        have hsd : wb.heap.size ≤ wd.heap.size := Nat.le_trans hbc.size hbd.size
        rw [HN.out n, if_pos (Nat.le_refl n)]
        rcases hn0 with rfl | ⟨k, rfl⟩
        · go_wp2
          go_ret
          refine ⟨?_, HW.out.trans ?_⟩
          · show Ending.returned (.bool (decide ((Z : Int) ≤ 10))) = _
            rw [decide_eq_true (by omega)]
          exact (hba.mono hsz8).trans ((hbb.mono hsz8).trans ((hbc.mono (by omega)).trans (hbd.mono (by omega))))
        · go_wp2_with fail
          refine (read_any _ _ wd hxd.1 (by have := (Vi.varint_length (k + 1)).2; omega)).mono ?_
          rintro e we ⟨re, rfl, hre, hbe, hke⟩
          go_wp2_with fail
          have hlast := rnum_any _ re _ k we hre
          rw [HN.out k, if_neg (by omega)] at hlast
          refine hlast.mono ?_
          rintro e wf ⟨rfl, _, htf⟩
          have hbf := htf.base hke hbe.size
          go_wp2
          go_ret
          refine ⟨?_, HW.out.trans ?_⟩
          · show Ending.returned (.bool (decide ((Z : Int) ≤ 10))) = _
            rw [decide_eq_true (by omega)]
          exact (hba.mono hsz8).trans ((hbb.mono hsz8).trans ((hbc.mono (by omega)).trans ((hbd.mono (by omega)).trans ((hbe.mono (by omega)).trans (hbf.mono (by omega))))))
end Go.Proofs.Ytddhnenlfdpomaa
