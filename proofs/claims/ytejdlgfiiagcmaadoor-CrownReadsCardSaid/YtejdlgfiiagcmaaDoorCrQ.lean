/- The reference's bytes of a crown. -/
import Derived.Test.YtejdlgfiiagcmaaDoorCrA
import Derived.Test.YtejdlgfiiagcmaaDoorRPBytes
namespace Go.Proofs.YtejdlgfiiagcmaaDoor
open Go.RowKit

set_option maxRecDepth 10000 in
set_option maxHeartbeats 1600000 in
theorem refbytes_any (c : Cr) (ok : c.Ok) (w : World) :
    Calls Tryd.prog 10 #[CrVal c] w fun e w' => ∃ v', e = .returned v' ∧ Own8 5 w.heap.size w' v' (seal8 c.page.raw) ∧ Below w.heap.size w w' := by
  unfold CrVal
  have OK := Lib.hid ok
  clear ok
  go_enter Tryd.func10, Tryd.ntmps10
  go_upto_region 1 with fail
  have hb0 := bal (bre w) (.cells #[.int .u32 c.gen, .int .u8 c.half, .int .u32 c.serial] 35)
  have hr0 := heap_alloc_new w (.cells #[.int .u32 c.gen, .int .u8 c.half, .int .u32 c.serial] 35)
  generalize w.alloc (.cells #[.int .u32 c.gen, .int .u8 c.half, .int .u32 c.serial] 35) = W at *
  obtain ⟨n1, hn1⟩ : ∃ n, n = w.heap.size := ⟨_, rfl⟩
  rw [← hn1] at hr0 ⊢
  have r0 := cell_of_row W n1 0 _ _ _ hr0
  have r1 := cell_of_row W n1 1 _ _ _ hr0
  have r2 := cell_of_row W n1 2 _ _ _ hr0
  have hbl := bal (bre W) (.cells #[.int .u8 c.half] 5)
  have hol := own8_lit 5 W #[.int .u8 c.half] [UInt8.ofNat c.half] 1 (by simp [B8_ofNat _ OK.out.half]) rfl (by simp [maxLen])
  have HBL := Lib.hid (btr hb0 hbl)
  have HOL := Lib.hid hol
  clear hb0 hr0 hbl hol hn1
  go_wp2_with fail
  refine (rpbytes_any _ c.page _ ⟨_, rfl, HOL.out.bytes⟩ OK.out.page (by show 1 ≤ 491; decide)).mono ?_
  rintro e w2 ⟨v2, rfl, ho2, hb2⟩
  obtain ⟨a2, m2, c2, rfl⟩ := ho2.isSlice
  have HB2 := Lib.hid (btr HBL.out hb2)
  have HO2 := Lib.hid ho2
  have HS := Lib.hid HBL.out.size
  clear ho2 hb2
  go_wp2_with fail
  go_ret
  exact ⟨_, rfl, Own8.kept HO2.out HS.out (bre w2), HB2.out⟩
end Go.Proofs.YtejdlgfiiagcmaaDoor
