/- Crowns: Write. -/
import Derived.Test.YtejdlgfiiagcmaaDoorCrA
import Derived.Test.YtejdlgfiiagcmaaDoorDkSync
namespace Go.Proofs.YtejdlgfiiagcmaaDoor
open Go.RowKit

/-- the disk behind a crown's writing -/
def Dk.crowned (d : Dk) (c : Cr) : Dk := (d.synced.wrote (c.gen % 2) (seal8 c.page.raw)).synced

theorem Dk.synced_length (d : Dk) : d.synced.safe.length = d.safe.length := syncOf_length _ _

/-- a disk on which a crown may be written -/
structure Easy (d : Dk) : Prop where
  bound : d.bound = false
  left0 : -9223372036854775808 < d.left
  left1 : d.left ≤ 9223372036854775807
  count : d.count ≤ 900000
  wait : d.wait.length ≤ 900000

theorem Easy.may {d : Dk} (h : Easy d) : d.may = true := by unfold Dk.may; rw [h.bound]; rfl
theorem Easy.synced {d : Dk} (h : Easy d) : Easy d.synced := by
  refine ⟨h.bound, ?_, ?_, h.count, Nat.zero_le _⟩
  · show _ < (if d.bound then d.left - 1 else d.left); rw [h.bound]; exact h.left0
  · show (if d.bound then d.left - 1 else d.left) ≤ _; rw [h.bound]; exact h.left1
theorem Easy.wrote_may {d : Dk} (h : Easy d) (i : Nat) (p : List UInt8) : (d.wrote i p).may = true ∧ -9223372036854775808 < (d.wrote i p).left ∧ (d.wrote i p).left ≤ 9223372036854775807 ∧ (d.wrote i p).wait.length ≤ 1000000 := by
  refine ⟨?_, ?_, ?_, ?_⟩
  · unfold Dk.may Dk.wrote; simp only; rw [h.bound]; rfl
  · show _ < (if d.bound then d.left - 1 else d.left); rw [h.bound]; exact h.left0
  · show (if d.bound then d.left - 1 else d.left) ≤ _; rw [h.bound]; exact h.left1
  · show (d.wait ++ [(i, p)]).length ≤ _; rw [List.length_append]; have := h.wait; simp; omega

set_option maxRecDepth 10000 in
set_option maxHeartbeats 1600000 in
theorem cwrite_ok (g : Nat) (d : Dk) (F : Nat → Prop) (c : Cr) (w : World) (h : DiskAt w g d F) (h2 : 2 ≤ d.safe.length) (he : Easy d) (ok : c.Ok) (hh : c.half < 2) :
    Calls Tryd.prog 20 #[.pointer (some ⟨g, 0, none⟩), CrVal c] w fun e w' => ∃ F', e = .returned (.int .i64 0) ∧ DiskAt w' g (d.crowned c) F' ∧ Moved w w' F F' := by
  have HV : Hid (CrVal c = .agg #[.int .u32 c.gen, .int .u8 c.half, .int .u32 c.serial]) := Lib.hid rfl
  rw [HV.out]
  have hk1 : decide ((2 : Int) ≤ c.half) = false := decide_eq_false (by omega)
  have HD := Lib.hid h
  have H2 := Lib.hid h2
  have HE := Lib.hid he
  have HOK := Lib.hid ok
  clear h h2 he ok hh
  go_enter Tryd.func20, Tryd.ntmps20
  go_upto_region 1 with fail
  have hb0 := bal (bre w) (.cells #[.int .u32 c.gen, .int .u8 c.half, .int .u32 c.serial] 24)
  have hr0 := heap_alloc_new w (.cells #[.int .u32 c.gen, .int .u8 c.half, .int .u32 c.serial] 24)
  generalize w.alloc (.cells #[.int .u32 c.gen, .int .u8 c.half, .int .u32 c.serial] 24) = W at *
  obtain ⟨n3, hn3⟩ : ∃ n, n = w.heap.size := ⟨_, rfl⟩
  rw [← hn3] at hr0 ⊢
  have hr0' : Row3 W n3 c := hr0
  have hF : ∀ k, F k → k < n3 := fun k hk => by have := HD.out.lt k hk; omega
  have HD0 := Lib.hid (HD.out.below hb0)
  have HR0 := Lib.hid hr0'
  have HM0 := Lib.hid (Moved.of_below F hb0)
  have HF := Lib.hid hF
  have e1 := hr0'.c1
  clear hb0 hr0 hr0' hn3 hF HD
  go_wp2_with fail
  refine (sync_ok g d F W HD0.out HE.out.may HE.out.left0 HE.out.left1 (by have := HE.out.wait; omega)).mono ?_
  rintro e w1 ⟨F1, rfl, hd1, hm1⟩
  have HD1 := Lib.hid hd1
  have HR1 := Lib.hid (HR0.out.only hm1.only (fun hk => by have := HF.out _ hk; omega))
  have HM1 := Lib.hid (HM0.out.trans hm1)
  have hF1 : ¬ F1 n3 := fun hk => by
    rcases hm1.fresh _ hk with h | h
    · have := HF.out _ h; omega
    · have := HR0.out.lt; omega
  have HF1 := Lib.hid hF1
  clear hd1 hm1 e1 hF1 HD0 HR0 HM0 HF
  have e0 := HR1.out.c0
  have e1 := HR1.out.c1
  have e2 := HR1.out.c2
  go_wp2_with fail
  rw [← HV.out]
  refine (cpage_any c HOK.out w1).mono ?_
  rintro e w2 ⟨vd, rfl, hod, hb2⟩
  have HOD := Lib.hid hod
  have HB2 := Lib.hid hb2
  clear hod hb2
  go_wp2_with fail
  refine (pbytes_ok _ c.page w2 (PgAt.mk' HOD.out.bytes) HOK.out.page (by show (9 : Nat) ≠ 0; decide) (by show 1 ≤ 491; decide)).mono ?_
  rintro e w3 ⟨v3, rfl, ho3, hb3⟩
  have hb13 := btr HB2.out hb3
  have HD3 := Lib.hid (HD1.out.below hb13)
  have HR3 := Lib.hid (HR1.out.below hb13)
  have HM3 := Lib.hid (HM1.out.trans (Moved.of_below F1 hb13))
  have HY3 := Lib.hid ho3.bytes
  clear hb13 ho3 hb3 HOD HB2 HD1 HR1 HM1 e0 e1 e2
  have e0 := HR3.out.c0
  obtain ⟨i, hie⟩ : ∃ i, i = c.gen % 2 := ⟨_, rfl⟩
  have hmod : (c.gen : Int) % 2 = (i : Int) := by omega
  have hi : i < 2 := by omega
  have HIE := Lib.hid hie
  clear hie
  go_wp2_with fail
  refine (write_ok g d.synced F1 i v3 (seal8 c.page.raw) w3 HD3.out (by rw [Dk.synced_length]; have := H2.out; omega) HE.out.synced.may HY3.out (by rw [seal_length, raw_length _ (by show 1 ≤ 491; decide)]) HE.out.synced.left0 HE.out.synced.left1 (by have := HE.out.synced.count; omega) (by have := HE.out.synced.wait; omega)).mono ?_
  rintro e w4 ⟨F4, rfl, hd4, hm4⟩
  have HD4 := Lib.hid hd4
  have HM4 := Lib.hid (HM3.out.trans hm4)
  clear hd4 hm4 e0 HD3 HR3 HM3 HY3
  obtain ⟨k1, k2, k3, k4⟩ := HE.out.synced.wrote_may i (seal8 c.page.raw)
  have K1 := Lib.hid k1
  have K2 := Lib.hid k2
  have K3 := Lib.hid k3
  have K4 := Lib.hid k4
  clear k1 k2 k3 k4
  go_wp2_with fail
  refine (sync_ok g (d.synced.wrote i (seal8 c.page.raw)) F4 w4 HD4.out K1.out K2.out K3.out K4.out).mono ?_
  rintro e w5 ⟨F5, rfl, hd5, hm5⟩
  have HD5 := Lib.hid hd5
  have HM5 := Lib.hid (HM4.out.trans hm5)
  clear hd5 hm5
  go_wp2_with fail
  go_ret
  have hd := HD5.out
  rw [HIE.out] at hd
  exact ⟨F5, rfl, hd, HM5.out⟩
end Go.Proofs.YtejdlgfiiagcmaaDoor
