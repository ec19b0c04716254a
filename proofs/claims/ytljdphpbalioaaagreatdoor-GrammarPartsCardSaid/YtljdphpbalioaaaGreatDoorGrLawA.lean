/- Walks: awake; the reference's signs. -/
import Derived.Test.YtljdphpbalioaaaGreatDoorGpE
import Derived.Test.YtljdphpbalioaaaGreatDoorGrL
namespace Go.Proofs.YtljdphpbalioaaaGreatDoor
open Go.RowKit

theorem tb_on {w w' : World} (h : Tb w.heap.size w) (hb : Below w.heap.size w w') : Tb w'.heap.size w' := fun w2 k => (h.below hb) w2 (k.mono hb.size)
theorem wf_i64' {n : Int} (h : (Lit.int .i64 n).wf = true) : -9223372036854775808 ≤ n ∧ n ≤ 9223372036854775807 := by
  simp [Lit.wf, IntKind.min, IntKind.max, IntKind.signed, IntKind.bits] at h
  omega
def exB : Bs := [109, 111, 100, 117, 108, 101, 32, 109, 32, 123, 32, 102, 117, 110, 99, 32, 102, 40, 97, 32, 105, 110, 116, 41, 32, 105, 110, 116, 32, 123, 32, 114, 101, 116, 117, 114, 110, 32, 40, 97, 32, 43, 32, 49, 41, 59, 32, 125, 32, 125]
theorem ex_ok : (parsed exB).1 = 0 := by kernel_rfl
theorem ex_len : (parsed exB).2.length = 9 := by kernel_rfl
theorem ex_some : (getA (parsed exB).2 8).isSome = true := by kernel_rfl
theorem ex_kind : (atN (parsed exB).2 8).kind = 15 := by kernel_rfl
theorem sign_ex : signOf 12 = [38, 38] := by kernel_rfl

set_option maxRecDepth 100000 in
set_option maxHeartbeats 1600000 in
theorem awake_any (w : World) (ht : Tb w.heap.size w) : Calls Tryz.prog 4 #[] w fun e w' => e = .returned (.bool true) ∧ Below w.heap.size w w' := by
  have HT := Lib.hid ht
  have HP := Lib.hid (parse_text exB w ht)
  clear ht
  go_enter Tryz.func4, Tryz.ntmps4
  go_wp2_with fail
  refine HP.out.mono ?_
  rintro e w1 ⟨hb1, h⟩
  rcases h with ⟨h1, -⟩ | ⟨-, ga, ba, rfl, har⟩
  · exact absurd ex_ok h1
  have HB1 := Lib.hid hb1
  have HAR := Lib.hid har
  unfold retP
  clear hb1 har HP
  go_wp2_with fail
  refine (arget_any ga ba (parsed exB).2 8 w1 HAR.out (by decide)).mono ?_
  rintro e w2 ⟨v', rfl, hown, hb2⟩
  obtain ⟨kv, rfl, hids, -⟩ := hown
  obtain ⟨ka, kc, rfl⟩ := hids.slice
  rw [ex_some]
  have HK := Lib.hid ex_kind
  obtain ⟨nd, hnd⟩ : ∃ n, n = atN (parsed exB).2 8 := ⟨_, rfl⟩
  rw [← hnd] at HK ⊢
  obtain ⟨L, hL⟩ : ∃ L, L = nd.kids.length := ⟨_, rfl⟩
  rw [← hL]
  have hb3 := bal (bre w2) (.cells #[.int .u8 nd.kind, .string nd.name, .int .i64 nd.num, .int .u8 nd.typ, .int .u64 nd.ref, .slice ka L kc] 37)
  have hr3 := heap_alloc_new w2 (.cells #[.int .u8 nd.kind, .string nd.name, .int .i64 nd.num, .int .u8 nd.typ, .int .u64 nd.ref, .slice ka L kc] 37)
  have c0 := cell_of_row _ _ 0 _ _ _ hr3
  replace c0 : (w2.alloc (.cells #[.int .u8 nd.kind, .string nd.name, .int .i64 nd.num, .int .u8 nd.typ, .int .u64 nd.ref, .slice ka L kc] 37)).cell? ⟨w2.heap.size, 0, none⟩ = some (.int .u8 15) := by rw [c0, HK.out]; rfl
  have HB2 := Lib.hid (btr hb2 hb3)
  have HC0 := Lib.hid c0
  unfold NdVal
  clear hL hnd hids hb2 hb3 hr3 c0 HK
  go_upto_region 3 with fail
  generalize w2.alloc (.cells #[.int .u8 nd.kind, .string nd.name, .int .i64 nd.num, .int .u8 nd.typ, .int .u64 nd.ref, .slice ka L kc] 37) = w3 at *
  have HB3 := Lib.hid (btr HB1.out HB2.out)
  have HAR3 := Lib.hid (HAR.out.below HB2.out)
  have HLEN := Lib.hid ex_len
  generalize w2.heap.size = n3 at *
  clear HB1 HB2 HAR
  have c0 := HC0.out
  go_wp2_with fail
  refine (arlen_any ga ba (parsed exB).2 w3 HAR3.out).mono ?_
  rintro e w4 ⟨rfl, hw⟩
  have hw' := hw.symm
  subst hw'
  clear hw
  rw [HLEN.out]
  go_wp2_with fail
  refine (sign_any 12 (by decide) (by decide) w3 (HT.out.below HB3.out).here.1).mono ?_
  rintro e w5 ⟨rfl, hb5⟩
  rw [sign_ex]
  have hm2 : ((mk8 [38, 38]).toList == [38, 38]) = true := by kernel_rfl
  have HB5 := Lib.hid (btr HB3.out hb5)
  clear hb5
  go_wp2_with fail
  go_ret
  exact ⟨rfl, HB5.out⟩

theorem opNum_hit {x : Bs} {k : Nat} (hk : Gr.ops[k]? = some x) (hb : ∀ j, j < k → Gr.ops[j]? ≠ some x) : k + 1 = Gr.opNum x := by
  have h := idxS_hit hk hb
  have h2 := opNum_idx x
  omega
theorem opNum_miss {x : Bs} (hb : ∀ j, j < 13 → Gr.ops[j]? ≠ some x) : Gr.opNum x = 0 := by
  have h := idxS_miss (ls := Gr.ops) (x := x) fun j hj => hb j hj
  have h2 := opNum_idx x
  omega

end Go.Proofs.YtljdphpbalioaaaGreatDoor
