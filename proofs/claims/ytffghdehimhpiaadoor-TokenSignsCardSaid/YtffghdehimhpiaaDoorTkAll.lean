/- Walk: all tokens of a text. -/
import Derived.Test.YtffghdehimhpiaaDoorTkSign
import Derived.Test.YtffghdehimhpiaaDoorLong
import Derived.Test.YtffghdehimhpiaaDoorRecs
namespace Go.Proofs.YtffghdehimhpiaaDoor
open Go.RowKit

theorem next_any (B g i : Nat) (s : ByteArray) (w : World) (hr : ScanAt w g s i) (hi : i < s.size) (hs : s.size ≤ 281474976710656) (ht : Tb B w) (hB : B ≤ w.heap.size) (hg : B ≤ g) :
    Calls Tryd.prog 26 #[.pointer (some ⟨g, 0, none⟩)] w (NextSays w g s i (tokAt (s.data.toList.drop i))) := by
  cases hp : partN (s[i]'hi).toNat with
  | true => exact next_part B g i s w hr hi hs ht hB hg hp
  | false => exact next_sign B g i s w hr hi hs ht hB hg hp

theorem tok_le (l : List UInt8) : (tokAt l).2 ≤ l.length := by
  unfold tokAt
  split
  · exact run_le l
  · split
    · rw [List.length_take]; exact Nat.min_le_right _ _
    · split
      · rw [List.length_take]; exact Nat.min_le_right _ _
      · exact Nat.zero_le _

def tokCells (t : Tok) : List Value := [.int .u8 t.kind, .string (mk8 t.text), .int .i64 t.pos]
def OwnToks (base : Nat) (w : World) (v : Value) (ts : List Tok) : Prop := w.ownsRow base 32 3 v ts.length (ts.flatMap tokCells)
theorem rowTok : RowTy Tryd.prog 24 32 3 32 := RowTy.mk' (z := .agg #[.int .u8 0, .string ByteArray.empty, .int .i64 0]) Tryd.underlying24 (by kernel_rfl) rfl (by omega)

theorem lies_three (w : World) (x y z : Value) (t : TypeId) : Lies (w.alloc (.cells #[x, y, z] t)) (some ⟨w.heap.size, 0, none⟩) [x, y, z] :=
  .inr ⟨_, _, rfl, fun j u hu => by
    have := World.cell?_alloc_new w #[x, y, z] t j
    rw [Nat.zero_add, this]
    simpa using hu⟩

def AllPost (w : World) (l : List UInt8) (e : Ending) (w' : World) : Prop :=
  (toksOf l = none → e = .returned (.tuple #[.slice none 0 0, .int .i64 20])) ∧ (∀ ts, toksOf l = some ts → ∃ v, e = .returned (.tuple #[v, .int .i64 0]) ∧ OwnToks w.heap.size w' v ts) ∧ Below w.heap.size w w'

theorem flat_snoc (ts : List Tok) (t : Tok) : (ts ++ [t]).flatMap tokCells = ts.flatMap tokCells ++ tokCells t := by simp

set_option maxRecDepth 100000 in
theorem all_long (s : ByteArray) (h : 200000 < s.size) (w : World) : Calls Tryd.prog 10 #[.string s] w fun e w' => e = .returned (.tuple #[.slice none 0 0, .int .i64 4]) ∧ w' = w := by
  have d1 : decide ((200000 : Int) < s.size) = true := decide_eq_true (by omega)
  clear h
  go_enter Tryd.func10, Tryd.ntmps10
  go_wp2_with fail
  go_ret2
  exact ⟨rfl, rfl⟩

set_option maxRecDepth 100000 in
set_option maxHeartbeats 3200000 in
theorem all_any (s : ByteArray) (hs : s.size ≤ 200000) (w : World) (ht : Tb w.heap.size w) : Calls Tryd.prog 10 #[.string s] w (AllPost w s.data.toList) := by
  have d1 : decide ((200000 : Int) < s.size) = false := decide_eq_false (by omega)
  have HT := Lib.hid ht
  clear ht
  go_enter Tryd.func10, Tryd.ntmps10
  go_upto_region 5 with fail
  have hb0 := bal (bre w) (.cells #[.string s, .int .i64 0] 48)
  have hr0 := heap_alloc_new w (.cells #[.string s, .int .i64 0] 48)
  generalize w.alloc (.cells #[.string s, .int .i64 0] 48) = W0 at *
  obtain ⟨g, hg⟩ : ∃ n, n = w.heap.size := ⟨_, rfl⟩
  rw [← hg] at hr0 ⊢
  have HG : Hid (w.heap.size ≤ g) := Lib.hid (by omega)
  have HB0 := Lib.hid hb0
  have hs0 : ScanAt W0 g s 0 := hr0
  have HS0 := Lib.hid hs0
  clear hb0 hr0 hg hs0 d1
  go_wp2_with fail
  refine (skip_any g 0 s W0 HS0.out (by omega) (by omega)).mono ?_
  rintro e w1 ⟨rfl, j, hs1, ho1, hsk⟩
  have HS1 := Lib.hid hs1
  have HB1 : Hid (Below w.heap.size w w1) := Lib.hid (HB0.out.trans (ho1.below _ HB0.out.size fun k hk h => by have := HG.out; omega))
  have HSK := Lib.hid hsk
  clear hs1 ho1 hsk HS0 HB0
  go_wp2_with fail
  go_loopw [4, 6, 7] (fun v _ _ wr => ∃ (i : Nat) (ts : List Tok), Hid (ScanAt wr g s i) ∧ Hid (Below w.heap.size w wr) ∧ Hid (OwnToks w.heap.size wr v ts) ∧ Hid (Came s.data.toList i ts) ∧ i ≤ s.size ∧ ts.length ≤ i ∧ Hid (∀ h : i < s.data.toList.length, classOf (s.data.toList[i]).toNat ≠ 3 ∧ (s.data.toList[i]).toNat ≠ 35)) (fun _ _ _ wr => s.size - (intOf ((wr.cell? ⟨g, 1, none⟩).getD undef)).toNat)
  case atStart => exact ⟨j, [], HS1, HB1, Lib.hid (World.ownsRow_nil _ _ _ _), Lib.hid (HSK.out.came _ (came_start _)), by have := HSK.out.le; rw [str_len] at this; exact this, by simp, Lib.hid HSK.out.stop⟩
  case round =>
    obtain ⟨i, ts, hsc, hbl, hown, hcm, hi, htl, hst⟩ := hrel
    clear HS1 HB1 HSK
    have c1 := cell_of_row wr g 1 _ _ _ hsc.out
    by_cases hlt : i < s.size
    rotate_left
    · have d1 : decide ((i : Int) < s.size) = false := decide_eq_false (by omega)
      have d1n : decide (i < s.size) = false := decide_eq_false hlt
      have HE : Hid (toksOf s.data.toList = some ts) := Lib.hid (came_end hcm.out (by rw [str_len]; omega))
      clear hcm hst hi htl hlt
      go_wp2_with fail
      go_ret2
      exact ⟨(fun h => by rw [HE.out] at h; cases h), (fun ts' h => by rw [HE.out] at h; cases h; exact ⟨_, rfl, hown.out⟩), hbl.out⟩
    have hll : i < s.data.toList.length := by rw [str_len]; exact hlt
    have d1 : decide ((i : Int) < s.size) = true := decide_eq_true (by omega)
    have d1n : decide (i < s.size) = true := decide_eq_true hlt
    have HST := Lib.hid (hst.out hll)
    have HM : Hid (s.size - (intOf ((wr.cell? ⟨g, 1, none⟩).getD undef)).toNat = s.size - i) := Lib.hid (by rw [c1]; simp [intOf])
    have HLL := Lib.hid hll
    clear hst
    go_wp2_with fail
    refine (next_any w.heap.size g i s wr hsc.out hlt (by omega) (HT.out.below hbl.out) hbl.out.size HG.out).mono ?_
    rintro e w2 ⟨hno, hyes, hon⟩
    have HB2 : Hid (Below w.heap.size w w2) := Lib.hid (hbl.out.trans (hon.below _ hbl.out.size fun k hk h => by have := HG.out; omega))
    obtain ⟨kn, hkn⟩ : ∃ kn, kn = tokAt (s.data.toList.drop i) := ⟨_, rfl⟩
    rw [← hkn] at hno hyes
    by_cases h0 : kn.1 = 0
    · obtain ⟨a, b, c, rfl⟩ := hno h0
      unfold tokV
      rw [strV_mk]
      have HE : Hid (toksOf s.data.toList = none) := Lib.hid (came_none hcm.out HLL.out HST.out.1 HST.out.2 (by rw [← hkn]; exact h0))
      clear hno hyes hon hkn h0 hcm hown hsc hbl c1 d1 d1n hi htl HM
      go_wp2_with fail
      go_ret2
      exact ⟨fun _ => rfl, (fun ts' h => by rw [HE.out] at h; cases h), HB2.out.alloc HB2.out.size _⟩
    · obtain ⟨rfl, hs2⟩ := hyes h0
      have HS2 := Lib.hid hs2
      have HOW2 : Hid (OwnToks w.heap.size w2 u4 ts) := Lib.hid (own_only hown.out hon fun k hk h => by subst h; exact own_ne hown.out hsc.out (by decide) hk)
      have hcm2 := came_tok hcm.out HLL.out HST.out.1 HST.out.2 (by rw [← hkn]; exact h0)
      rw [← hkn] at hcm2
      have hpos : 0 < kn.2 := by
        have := drop_cons s.data.toList i HLL.out
        rw [hkn, this]
        exact tok_pos (by rw [← this, ← hkn]; exact h0)
      have HCM2 := Lib.hid hcm2
      obtain ⟨T, hT⟩ : ∃ T, T = (s.data.toList.drop i).take kn.2 := ⟨_, rfl⟩
      obtain ⟨K, hK⟩ : ∃ K, K = kn.1 := ⟨_, rfl⟩
      obtain ⟨n, hn⟩ : ∃ n, n = kn.2 := ⟨_, rfl⟩
      have htn : i + n ≤ s.size := by
        have h1 := tok_le (s.data.toList.drop i)
        rw [← hkn, ← hn, List.length_drop, str_len] at h1
        omega
      have hpn : 0 < n := by omega
      unfold tokV
      rw [← hT, ← hK, strV_mk]
      have HCM3 : Hid (Came s.data.toList (i + n) (ts ++ [⟨K, T, i⟩])) := Lib.hid (by rw [hn, hK, hT]; exact HCM2.out)
      rw [← hn] at hs2
      have HS2 := Lib.hid hs2
      clear hno hyes hon hkn h0 hcm hown hsc hbl c1 hs2 hcm2 hT hK hn d1 d1n HCM2 hpos
      go_upto_region 11 with fail
      have hb3 := bal (bre w2) (.cells #[.int .u8 K, .string (mk8 T), .int .i64 i] 32)
      have hr3 := heap_alloc_new w2 (.cells #[.int .u8 K, .string (mk8 T), .int .i64 i] 32)
      have ho3 := World.ownsRow.alloc HOW2.out (.cells #[.int .u8 K, .string (mk8 T), .int .i64 i] 32)
      generalize w2.alloc (.cells #[.int .u8 K, .string (mk8 T), .int .i64 i] 32) = w3 at *
      obtain ⟨n6, hn6⟩ : ∃ n, n = w2.heap.size := ⟨_, rfl⟩
      rw [← hn6] at hr3 ⊢
      have HS3 : Hid (ScanAt w3 g s (i + n)) := Lib.hid (scan_keep HS2.out hb3)
      have HB3 : Hid (Below w.heap.size w w3) := Lib.hid (HB2.out.trans (hb3.mono HB2.out.size))
      have HOW3 := Lib.hid ho3
      have d0 := cell_of_row w3 n6 0 _ _ _ hr3
      have d1 := cell_of_row w3 n6 1 _ _ _ hr3
      have d2 := cell_of_row w3 n6 2 _ _ _ hr3
      clear hb3 hr3 ho3 hn6 HS2 HB2 HOW2
      go_upto_region 7 with (at_builtin; refine wpList_app rfl _ _ 24 32 3 32 rowTok rfl w.heap.size _ ts.length (ts.flatMap tokCells) rfl (World.ownsRow.alloc HOW3.out _) _ 1 1 (tokCells ⟨K, T, i⟩) rfl rfl (lies_three _ _ _ _ _) (Nat.le_refl _) (fun h => by cases h) (by simp [Value.oneCell', tokCells]) (by unfold maxLen; omega) (by omega) (by exact (HB3.out.alloc HB3.out.size _).size) ?_; intro v' w6 h6 hg6 hb6)
      have HOW6 : Hid (OwnToks w.heap.size w6 v' (ts ++ [⟨K, T, i⟩])) := Lib.hid (by unfold OwnToks; rw [flat_snoc, List.length_append]; exact h6)
      have hba := bal (bre w3) (.cells #[.int .u8 K, .string (mk8 T), .int .i64 i] 32)
      have hsa := scan_keep HS3.out hba
      have hoA := World.ownsRow.alloc HOW3.out (.cells #[.int .u8 K, .string (mk8 T), .int .i64 i] 32)
      have HS6 : Hid (ScanAt w6 g s (i + n)) := Lib.hid ((hg6.block g (Array.getElem?_eq_some_iff.1 hsa).1 (fun e => own_ne hoA hsa (by decide) e.symm)).trans hsa)
      have HB6 : Hid (Below w.heap.size w w6) := Lib.hid ((HB3.out.alloc HB3.out.size _).trans hb6)
      clear h6 hg6 hb6 hba hsa hoA d0 d1 d2 HS3 HB3 HOW3
      go_wp2_with fail
      refine (skip_any g (i + n) s w6 HS6.out htn (by omega)).mono ?_
      rintro e w7 ⟨rfl, j, hs7, ho7, hsk⟩
      have HS7 := Lib.hid hs7
      have HB7 : Hid (Below w.heap.size w w7) := Lib.hid (HB6.out.trans (ho7.below _ HB6.out.size fun k hk h => by have := HG.out; omega))
      have HOW7 : Hid (OwnToks w.heap.size w7 v' (ts ++ [⟨K, T, i⟩])) := Lib.hid (own_only HOW6.out ho7 fun k hk h => by subst h; exact own_ne HOW6.out HS6.out (by decide) hk)
      have HSK := Lib.hid hsk
      clear hs7 ho7 hsk HS6 HB6 HOW6
      go_wp2_with fail
      go_roundw
      case rel => exact ⟨j, ts ++ [⟨K, T, i⟩], HS7, HB7, HOW7, Lib.hid (HSK.out.came _ HCM3.out), by have := HSK.out.le; rw [str_len] at this; exact this, by have := HSK.out.ge; simp; omega, Lib.hid HSK.out.stop⟩
      case measure =>
        have e1 := cell_of_row _ g 1 _ _ _ HS7.out
        have h1 := HSK.out.ge
        rw [HM.out, e1]
        simp [intOf]
        omega
end Go.Proofs.YtffghdehimhpiaaDoor
