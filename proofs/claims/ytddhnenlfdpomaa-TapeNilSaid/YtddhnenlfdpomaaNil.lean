/- TapeNil: a nil writer, a nil reader; what is told is nobody else's. -/
import Derived.Test.YtddhnenlfdpomaaNilW
import Derived.Test.YtddhnenlfdpomaaAwakeT
namespace Go.Proofs.Ytddhnenlfdpomaa
open Go.RowKit

theorem size_firstOf (s : ByteArray) (k : Nat) : (firstOf s k).size ≤ k := by
  unfold firstOf; rw [ByteArray.size_extract]; omega
theorem rd_nil (B : Nat) (w : World) : RdAt B w (.pointer none) none := .inl ⟨rfl, rfl⟩
theorem turned_nil {w w' : World} (h : Turned w w' (.pointer none)) : Below w.heap.size w w' := h.base (fun k e => by cases e) (Nat.le_refl _)

set_option maxRecDepth 10000 in
set_option maxHeartbeats 1600000 in
theorem nil_calls (n : Nat) (s : ByteArray) (w : World) (hn : n < 18446744073709551616) (hs : s.size ≤ 9223372036854775807) :
    Calls Try.prog 7 #[.int .u64 n, .string s] w fun e w' => e = .returned (.bool true) ∧ Below w.heap.size w w' := by
  have hwr : -9223372036854775808 ≤ wrap64 n ∧ wrap64 n ≤ 9223372036854775807 := by unfold wrap64; omega
  have hsz := size_firstOf s 20
  go_enter Try.func7, Try.ntmps7
  go_wp2_with fail
  refine (awake_any w).mono ?_
  rintro e w1 ⟨rfl, hb1⟩
  go_wp2_with fail
  refine (text_any s 20 w1 hs (by omega)).mono ?_
  rintro e w2 ⟨rfl, rfl⟩
  generalize firstOf s 20 = t at *
  go_wp2_with fail
  refine (nnum_any n w2 hn).mono ?_
  rintro e w3 ⟨rfl, hb3⟩
  go_wp2_with fail
  refine (nint_any (wrap64 n) w3 hwr.1 hwr.2).mono ?_
  rintro e w4 ⟨rfl, hb4⟩
  go_wp2_with fail
  refine (ntext_any t w4 (by omega)).mono ?_
  rintro e w5 ⟨rfl, hb5⟩
  go_wp2_with fail
  refine (nbyte_any 1 w5).mono ?_
  rintro e w6 ⟨rfl, hb6⟩
  go_wp2_with fail
  refine (nbool_any true w6).mono ?_
  rintro e w7 ⟨rfl, hb7⟩
  have hb8 := btr (btr (btr (btr (btr hb1 hb3) hb4) hb5) hb6) hb7
  clear hb1 hb3 hb4 hb5 hb6 hb7
  go_wp2_with fail
  refine (nbytes_any w7).mono ?_
  rintro e w8 ⟨rfl, rfl⟩
  go_wp2_with fail
  refine (rnum_any 0 (.pointer none) none n w8 (rd_nil _ _)).mono ?_
  rintro e w9 ⟨rfl, _, ht9⟩
  rw [show (Rd.num n none) = (0, none) by rfl]
  go_wp2_with fail
  refine (rint_any 0 (.pointer none) none w9 (rd_nil _ _)).mono ?_
  rintro e wa ⟨rfl, _, hta⟩
  rw [show (Rd.int none) = (0, none) by rfl]
  go_wp2_with fail
  refine (rtext_any 0 (.pointer none) none 9 wa (by omega) (rd_nil _ _)).mono ?_
  rintro e wb ⟨rfl, _, htb⟩
  rw [show (Rd.text 9 none) = ([], none) by rfl, show strOf ([] : List UInt8) = ⟨#[]⟩ by rfl]
  go_wp2_with fail
  refine (rbyte_any 0 (.pointer none) none wb (rd_nil _ _)).mono ?_
  rintro e wc ⟨rfl, _, htc⟩
  rw [show (Rd.take none) = (0, none) by rfl]
  go_wp2_with fail
  refine (rbool_any 0 (.pointer none) none wc (rd_nil _ _)).mono ?_
  rintro e wd ⟨rfl, _, htd⟩
  rw [show (Rd.bool none) = (false, none) by rfl]
  go_wp2_with fail
  refine (left_any 0 (.pointer none) none wd (rd_nil _ _)).mono ?_
  rintro e we ⟨rfl, rfl⟩
  rw [show (Rd.left none) = 0 by rfl]
  go_wp2_with fail
  refine (done_any 0 (.pointer none) none we (rd_nil _ _)).mono ?_
  rintro e wf ⟨rfl, rfl⟩
  rw [if_neg (show ¬ (none : Option (List UInt8)) = some [] by intro h; cases h)]
  have hbf := btr (btr (btr (btr (btr hb8 (turned_nil ht9)) (turned_nil hta)) (turned_nil htb)) (turned_nil htc)) (turned_nil htd)
  clear hb8 ht9 hta htb htc htd
  go_wp2_with fail
  have hN := NilW.new wf wf.heap.size rfl
  have hbg := bal (bre wf) (.cells #[.slice none 0 0] 26)
  have hsg : (wf.alloc (.cells #[.slice none 0 0] 26)).heap.size = wf.heap.size + 1 := by simp
  generalize wf.alloc (.cells #[.slice none 0 0] 26) = W at *
  have hw0 := hbf.size
  generalize hg : wf.heap.size = g at *
  refine (wtext_any W.heap.size g [] t W (by omega) (hN.at _) (by simp) (Nat.le_refl _)).mono ?_
  rintro e wg ⟨rfl, hwg, hgg⟩
  have hbW := (hgg.nil hN).below g (by omega) (by intro i hi h; omega)
  have hbT : Below w.heap.size w wg := hbf.trans ((hbg.trans hbW).mono hw0)
  simp only [List.nil_append] at hwg
  have hvl := (Vi.varint_length t.size).2
  have htl : t.data.toList.length = t.size := Array.length_toList
  obtain ⟨L, hL⟩ : ∃ L, L = Vi.varint t.size ++ t.data.toList := ⟨_, rfl⟩
  have hLl : L.length ≤ 100 := by rw [hL, List.length_append, htl]; omega
  rw [← hL] at hwg
  clear htl hvl hN hbg hgg hbW hbf
  go_wp2_with fail
  refine (wbytes_any _ g L wg hwg (by omega)).mono ?_
  rintro e wh ⟨vp, rfl, hown, hbh⟩
  have hne : L ≠ [] := by
    intro h
    have h1 := (Vi.varint_length t.size).1
    rw [hL] at h
    rw [(List.append_eq_nil_iff.1 h).1] at h1
    simp at h1
  obtain ⟨k, c, rfl, hk1, hk2, hc⟩ := hown.shape hne
  have hLpos : 0 < L.length := List.length_pos_iff.2 hne
  obtain ⟨X, hX⟩ : ∃ X, X = L.length := ⟨_, rfl⟩
  rw [← hX] at hown hc hLl hLpos ⊢
  have HX := Lib.hid hX
  have HL := Lib.hid hL
  clear hX hL hne
  go_wp2
  go_loopw [71] (fun i wr => ∃ (j : Nat) (l' : List UInt8), i = .int .i64 j ∧ j ≤ X ∧ l'.length = X ∧ Own8 5 wg.heap.size wr (.slice (some ⟨k, 0, none⟩) X c) l' ∧ Below wg.heap.size wg wr) (fun i _ => X - (intOf i).toNat)
  case atStart => exact ⟨0, L, rfl, by omega, HX.out.symm, hown, hbh⟩
  case round =>
    obtain ⟨j, l', rfl, hj, hl', ho', hb'⟩ := hrel
    by_cases hjx : j < X
    · obtain ⟨hcell, hfr⟩ := ho'.cell j (by omega)
      have hst := ho'.store j (l'[j]'(by omega) + 1)
      have hb1 : B8 (l'[j]'(by omega) + 1) = .int .u8 (((l'[j]'(by omega)).toNat + 1 : Int) % 256) := by
        unfold B8; rw [UInt8.toNat_add]; simp
      unfold B8 at hcell
      rw [hb1] at hst
      generalize hx : l'[j]'(by omega) = b at *
      have hbb : b.toNat < 256 := b.toNat_lt
      have HS := Lib.hid hst
      clear hst hb1 ho' hx
      go_wp2
      go_roundw
      case rel => exact ⟨j + 1, _, by go_num, by omega, by rw [List.length_set]; exact hl', HS.out.1, hb'.trans HS.out.2⟩
      case measure => simp [intOf]; omega
    · go_wp2_with fail
      have hX0 := HX.out
      refine (wbytes_any _ g L wr (hwg.below hb') (by omega)).mono ?_
      rintro e wi ⟨vq, rfl, hoq, hbi⟩
      have hyq := hoq.bytes
      obtain ⟨aq, nq, cq, rfl⟩ := hoq.isSlice
      have hsw := hbT.size
      have hbI : Below w.heap.size w wi := hbT.trans ((hb'.trans (hbi.mono hb'.size)).mono hsw)
      have hlr := layr_any ⟨2, 0, t, 0, by omega, by omega, by omega⟩ wi (by show t.size ≤ 1000000; omega)
      have hlo : layOf ⟨2, 0, t, 0, by omega, by omega, by omega⟩ = L := HL.out.symm
      rw [hlo] at hlr
      have HR := Lib.hid hlr
      clear hlr hlo hX0 hoq ho' hwg hown
      go_wp2_with fail
      refine HR.out.mono ?_
      rintro e wj ⟨vj, rfl, hyj, hbj⟩
      obtain ⟨aj, cj, rfl, _⟩ := id hyj
      go_wp2_with fail
      refine (same_any _ _ L L wj (hyq.below hbj) hyj).mono ?_
      rintro e wk ⟨rfl, m, rfl⟩
      have hbJ := bdn (btr hbI hbj) m
      rw [decide_eq_true rfl]
      go_wp2
      go_ret
      exact ⟨rfl, hbJ⟩
end Go.Proofs.Ytddhnenlfdpomaa
