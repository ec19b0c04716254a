/- Crowns: the document's example. -/
import Derived.Test.YtejdlgfiiagcmaaDoorCrD
import Derived.Test.YtejdlgfiiagcmaaDoorCrE
namespace Go.Proofs.YtejdlgfiiagcmaaDoor
open Go.RowKit

theorem scan_succ (b : Nat → List UInt8) (k : Nat) : scan b (k + 1) = if (atOf (b k) k).2.1 && (!(scan b k).2 || decide ((scan b k).1.gen < (atOf (b k) k).1.gen)) then ((atOf (b k) k).1, true) else scan b k := rfl

theorem pgSame_refl (a : Pg) : pgSame a a = true := by simp [pgSame]

theorem atOf_crown (c : Cr) (ok : c.Ok) (h : c.half < 2) : atOf (seal8 c.page.raw) (c.gen % 2) = (c, true, 0) := by
  have hp := parseOf_seal c.page ok.page (by show (9 : Nat) ≠ 0; decide) (by show 1 ≤ 491; decide)
  have hh : (UInt8.ofNat c.half).toNat = c.half := toNat_ofNat8 _ ok.half
  have hc : c.page.crown = c := by
    obtain ⟨g, x, s⟩ := c
    show (⟨g, (UInt8.ofNat x).toNat, s⟩ : Cr) = _
    rw [show (UInt8.ofNat x).toNat = x from hh]
  unfold atOf
  rw [hp]
  simp only
  rw [hc, if_neg (by decide), if_neg (by
    rintro (h1 | h1 | h1)
    · exact h1 rfl
    · exact h1 rfl
    · omega), if_neg (by
    rintro (h1 | h1)
    · rw [pgSame_refl] at h1; cases h1
    · exact h1 rfl)]

theorem atOf_blank (i : Nat) : atOf blank512 i = (.zero, false, 0) := by
  unfold atOf
  rw [parseOf_none blank512 (by unfold blank512; exact List.length_replicate) (fun _ hb => List.eq_of_mem_replicate hb), if_pos rfl]

theorem now_quiet (d : Dk) (h : d.wait = []) (j : Nat) : d.now j = d.safe.getD j [] := by
  unfold Dk.now
  rw [h]
  rfl

theorem crowned_wait (d : Dk) (c : Cr) : (d.crowned c).wait = [] := rfl
theorem crowned_safe (d : Dk) (c : Cr) : (d.crowned c).safe = d.synced.safe.set (c.gen % 2) (seal8 c.page.raw) := rfl
theorem crowned_length (d : Dk) (c : Cr) : (d.crowned c).safe.length = d.safe.length := by rw [crowned_safe, List.length_set, Dk.synced_length]
theorem crowned_now (d : Dk) (c : Cr) (hl : 2 ≤ d.safe.length) (j : Nat) : (d.crowned c).now j = if j = c.gen % 2 then seal8 c.page.raw else d.synced.now j := by
  rw [now_quiet _ (crowned_wait d c), now_quiet _ (show d.synced.wait = [] from rfl), crowned_safe, List.getD_eq_getElem?_getD, List.getD_eq_getElem?_getD]
  by_cases h : j = c.gen % 2
  · rw [if_pos h, h, List.getElem?_set_self (by rw [Dk.synced_length]; have := Nat.mod_lt c.gen (show 0 < 2 by decide); omega)]
    rfl
  · rw [if_neg h, List.getElem?_set_ne (fun e => h e.symm)]
theorem synced_quiet (d : Dk) (h : d.wait = []) (j : Nat) : d.synced.now j = d.now j := by
  rw [now_quiet _ h, now_quiet _ (show d.synced.wait = [] from rfl)]
  unfold Dk.synced
  simp only
  rw [h]
  rfl
theorem crowned_easy (d : Dk) (c : Cr) (h : Easy d) (h2 : d.count ≤ 800000) : Easy (d.crowned c) := by
  have h1 := h.synced
  obtain ⟨k1, k2, k3, k4⟩ := h1.wrote_may (c.gen % 2) (seal8 c.page.raw)
  refine ⟨h.bound, ?_, ?_, ?_, Nat.zero_le _⟩
  · show _ < (if (d.synced.wrote (c.gen % 2) (seal8 c.page.raw)).bound then _ else (d.synced.wrote (c.gen % 2) (seal8 c.page.raw)).left)
    rw [show (d.synced.wrote (c.gen % 2) (seal8 c.page.raw)).bound = false from h.bound]
    exact k2
  · show (if (d.synced.wrote (c.gen % 2) (seal8 c.page.raw)).bound then (d.synced.wrote (c.gen % 2) (seal8 c.page.raw)).left - 1 else (d.synced.wrote (c.gen % 2) (seal8 c.page.raw)).left) ≤ _
    rw [show (d.synced.wrote (c.gen % 2) (seal8 c.page.raw)).bound = false from h.bound]
    exact k3
  · show d.count + 1 ≤ _
    omega

def ex4a : Dk := (Dk.new 8).formatted
def ex4b : Dk := ex4a.crowned Cr.first.next

theorem fmt_new : fmtK 2 (Dk.new 8) = Dk.new 8 := by
  have h : ∀ j, j < 8 → (Dk.new 8).now j = blank512 := fun j hj => by
    rw [now_quiet _ rfl]
    show (List.replicate 8 blank512).getD j [] = _
    rw [List.getD_eq_getElem?_getD, List.getElem?_replicate, if_pos hj]
    rfl
  have h1 : fmtK 1 (Dk.new 8) = Dk.new 8 := if_pos (h 0 (by decide))
  show (if (fmtK 1 (Dk.new 8)).now 1 = blank512 then fmtK 1 (Dk.new 8) else (fmtK 1 (Dk.new 8)).wrote 1 blank512) = _
  rw [h1]
  exact if_pos (h 1 (by decide))

theorem ex4a_is : ex4a = (Dk.new 8).crowned Cr.first := by unfold ex4a Dk.formatted; rw [fmt_new]
theorem new_easy : Easy (Dk.new 8) := ⟨rfl, by decide, by decide, by decide, by decide⟩
theorem ex4a_easy : Easy ex4a := by rw [ex4a_is]; exact crowned_easy _ _ new_easy (by decide)
theorem ex4a_length : ex4a.safe.length = 8 := by rw [ex4a_is, crowned_length]; rfl
theorem ex4b_length : ex4b.safe.length = 8 := by unfold ex4b; rw [crowned_length, ex4a_length]

theorem ex4a_at0 : atOf (ex4a.now 0) 0 = (.zero, false, 0) := by
  rw [ex4a_is, crowned_now _ _ (by decide), if_neg (by decide), synced_quiet _ rfl, now_quiet _ rfl]
  exact atOf_blank 0
theorem ex4a_at1 : atOf (ex4a.now 1) 1 = (Cr.first, true, 0) := by
  rw [ex4a_is, crowned_now _ _ (by decide), if_pos (by decide)]
  exact atOf_crown Cr.first Cr.first_ok (by decide)
theorem ex4a_read : readOf ex4a.now = (Cr.first, 0, 0) := by
  have h1 : scan ex4a.now 1 = (.zero, false) := by
    have h := scan_succ ex4a.now 0
    rw [ex4a_at0] at h
    exact h.trans (if_neg (by simp))
  have h2 : scan ex4a.now 2 = (Cr.first, true) := by
    have h := scan_succ ex4a.now 1
    rw [ex4a_at1, h1] at h
    exact h.trans (if_pos (by simp))
  unfold readOf
  rw [ex4a_at0, ex4a_at1, h2, if_neg (by simp), if_neg (by simp)]
  exact if_pos rfl
theorem ex4b_at0 : atOf (ex4b.now 0) 0 = (Cr.first.next, true, 0) := by
  unfold ex4b
  rw [crowned_now _ _ (by rw [ex4a_length]; decide), if_pos (by decide)]
  exact atOf_crown Cr.first.next Cr.first_ok.next (by decide)
theorem ex4b_at1 : atOf (ex4b.now 1) 1 = (Cr.first, true, 0) := by
  unfold ex4b
  rw [crowned_now _ _ (by rw [ex4a_length]; decide), if_neg (by decide), synced_quiet _ (by rw [ex4a_is]; rfl)]
  exact ex4a_at1
theorem ex4b_read : readOf ex4b.now = (Cr.first.next, 0, 0) := by
  have h1 : scan ex4b.now 1 = (Cr.first.next, true) := by
    have h := scan_succ ex4b.now 0
    rw [ex4b_at0] at h
    have h0 : scan ex4b.now 0 = (.zero, false) := rfl
    rw [h0] at h
    exact h.trans (if_pos (by simp))
  have h2 : scan ex4b.now 2 = (Cr.first.next, true) := by
    have h := scan_succ ex4b.now 1
    rw [ex4b_at1, h1] at h
    exact h.trans (if_neg (by decide))
  unfold readOf
  rw [ex4b_at0, ex4b_at1, h2, if_neg (by simp), if_neg (by simp)]
  exact if_pos rfl

set_option maxRecDepth 20000 in
set_option maxHeartbeats 1600000 in
theorem awake_any (w : World) :
    Calls Tryd.prog 8 #[] w fun e w' => e = .returned (.bool true) ∧ Below w.heap.size w w' := by
  go_enter Tryd.func8, Tryd.ntmps8
  go_wp2_with fail
  refine (new_any 8 w (by omega) (by omega)).mono ?_
  rintro e w1 ⟨g, F1, rfl, hd1, hF1, hb1⟩
  have HD1 := Lib.hid hd1
  have HF1 := Lib.hid hF1
  have HB1 := Lib.hid hb1
  clear hd1 hF1 hb1
  go_wp2_with fail
  refine (cformat_ok g (Dk.new 8) F1 w1 HD1.out (by decide) rfl (by decide) (by decide) (by decide) (by decide)).mono ?_
  rintro e w2 ⟨F2, rfl, hd2, hm2⟩
  have HD2 : Hid (DiskAt w2 g ex4a F2) := Lib.hid hd2
  have HF2 := Lib.hid (hm2.ge HB1.out.size HF1.out)
  have HB2 := Lib.hid (HB1.out.trans (hm2.below HB1.out.size HF1.out))
  clear hd2 hm2 HD1 HF1 HB1
  go_wp2_with fail
  refine (cread_ok g ex4a F2 w2 HD2.out (by rw [ex4a_length]; decide) (by have := ex4a_easy.wait; omega)).mono ?_
  rintro e w3 ⟨rfl, hb3⟩
  rw [ex4a_read]
  have HD3 := Lib.hid (HD2.out.below hb3)
  have HB3 := Lib.hid (HB2.out.trans (hb3.mono HB2.out.size))
  clear hb3 HD2 HB2
  unfold CrVal
  go_upto_region 5 with fail
  have hb4 := bal (bre w3) (.cells #[.int .u32 Cr.first.gen, .int .u8 Cr.first.half, .int .u32 Cr.first.serial] 24)
  have hr4 : Row3 _ w3.heap.size Cr.first := heap_alloc_new w3 (.cells #[.int .u32 Cr.first.gen, .int .u8 Cr.first.half, .int .u32 Cr.first.serial] 24)
  have hF3 := HD3.out.lt
  generalize w3.alloc (.cells #[.int .u32 Cr.first.gen, .int .u8 Cr.first.half, .int .u32 Cr.first.serial] 24) = w4 at *
  obtain ⟨n3, hn3⟩ : ∃ n, n = w3.heap.size := ⟨_, rfl⟩
  rw [← hn3] at hr4 ⊢
  have hnF : ¬ F2 n3 := fun h => by have := hF3 _ h; omega
  have HNF := Lib.hid hnF
  have HD4 := Lib.hid (HD3.out.below hb4)
  have HB4 := Lib.hid (HB3.out.trans (hb4.mono HB3.out.size))
  have HR4 := Lib.hid hr4
  have e0 := hr4.c0
  have e1 := hr4.c1
  have e2 := hr4.c2
  clear hb4 hr4 hF3 hn3 hnF HD3 HB3
  go_wp2_with fail
  refine (next_any Cr.first Cr.first_ok w4).mono ?_
  rintro e w5 ⟨rfl, hb5⟩
  have HD5 := Lib.hid (HD4.out.below hb5)
  have HB5 := Lib.hid (HB4.out.trans (hb5.mono HB4.out.size))
  have HR5 := Lib.hid (HR4.out.below hb5)
  have hlt5 := HR5.out.lt
  have HLT := Lib.hid hlt5
  clear hb5 e0 e1 e2 hlt5 HD4 HB4 HR4
  go_wp2_with fail
  refine (cwrite_ok g ex4a F2 Cr.first.next w5 HD5.out (by rw [ex4a_length]; decide) ex4a_easy Cr.first_ok.next (by decide)).mono ?_
  rintro e w6 ⟨F6, rfl, hd6, hm6⟩
  have HD6 : Hid (DiskAt w6 g ex4b F6) := Lib.hid hd6
  have HR6 := Lib.hid (HR5.out.only hm6.only HNF.out)
  have HB6 := Lib.hid (HB5.out.trans (hm6.below HB5.out.size HF2.out))
  clear hd6 hm6 HD5 HB5 HR5
  go_wp2_with fail
  refine (cread_ok g ex4b F6 w6 HD6.out (by rw [ex4b_length]; decide) (by show (0 : Nat) ≤ 1000000; decide)).mono ?_
  rintro e w7 ⟨rfl, hb7⟩
  rw [ex4b_read]
  have HR7 := Lib.hid (HR6.out.below hb7)
  have HB7 := Lib.hid (HB6.out.trans (hb7.mono HB6.out.size))
  clear hb7 HR6 HB6 HD6
  unfold CrVal
  go_upto_region 7 with fail
  have hb8 := bal (bre w7) (.cells #[.int .u32 Cr.first.next.gen, .int .u8 Cr.first.next.half, .int .u32 Cr.first.next.serial] 24)
  have hr8 : Row3 _ w7.heap.size Cr.first.next := heap_alloc_new w7 (.cells #[.int .u32 Cr.first.next.gen, .int .u8 Cr.first.next.half, .int .u32 Cr.first.next.serial] 24)
  generalize w7.alloc (.cells #[.int .u32 Cr.first.next.gen, .int .u8 Cr.first.next.half, .int .u32 Cr.first.next.serial] 24) = w8 at *
  have hr9 := HR7.out.below hb8
  have HB8 := Lib.hid (HB7.out.trans (hb8.mono HB7.out.size))
  have e0 : w8.cell? ⟨n3, 0, none⟩ = some (.int .u32 1) := hr9.c0
  have i0 : w8.cell? ⟨w7.heap.size, 0, none⟩ = some (.int .u32 2) := hr8.c0
  have i1 : w8.cell? ⟨w7.heap.size, 1, none⟩ = some (.int .u8 1) := hr8.c1
  clear hb8 hr8 hr9
  go_wp2_with fail
  go_ret
  exact ⟨rfl, HB8.out⟩
end Go.Proofs.YtejdlgfiiagcmaaDoor
