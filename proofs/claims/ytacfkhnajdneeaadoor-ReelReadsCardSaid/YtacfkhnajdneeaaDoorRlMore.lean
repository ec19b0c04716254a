/- Walks: a nil log; a log on a new disk; a log that is opened anew. -/
import Derived.Test.YtacfkhnajdneeaaDoorRlTold
namespace Go.Proofs.YtacfkhnajdneeaaDoor
open Go.RowKit

set_option maxRecDepth 10000 in
theorem rappend_nil (a : Option Addr) (L c : Nat) (w : World) : Calls Tryd.prog 24 #[.pointer none, .slice a L c] w fun e w' => e = .returned (.int .i64 3) ∧ w' = w := by
  go_enter Tryd.func24, Tryd.ntmps24
  go_wp2_with fail
  go_ret
  exact ⟨rfl, rfl⟩

/-- a record that is too long -/
theorem live_append_long (z : Sess) (g gd : Nat) (r : Rl) (d : Dk) (F G : Nat → Prop) (all : List (List UInt8)) (synced : Nat) (v : Value) (p : List UInt8) (w : World) (hl : Live z r d all synced) (hd : DiskAt w gd d F) (hr : RlIn w g gd r G) (hv : Rec8 0 w v p) (hp : 65536 < p.length) (hp2 : p.length ≤ 100000)
    (hc : d.count ≤ 900000) (hw : d.wait.length ≤ 900000) (ha : all.length ≤ 1000000) :
    Calls Tryd.prog 24 #[.pointer (some ⟨g, 0, none⟩), v] w fun e w' => e = .returned (.int .i64 4) ∧ Below w.heap.size w w' := by
  have hso1 := hl.so1
  have hroom := hl.poss.room
  have hso4 := hl.so4
  refine (rappend_any g gd r d F G v p w hd hr hv hp2 (by rw [hl.ls, hl.n]; exact hroom) hl.fits (by rw [hl.ls]; exact hso1) hl.so3 (by omega) (by rw [hl.gen]; exact hl.g32) (by rw [hl.ser]; exact hl.poss.ok.S32) hl.free hc hw (by rw [hl.ls]; exact ha)).mono ?_
  rintro e w' ⟨h1, -, -⟩
  exact h1 hp

theorem open_new_any (gd N : Nat) (F : Nat → Prop) (c : Cr) (ok : c.Ok) (w : World) (hd : DiskAt w gd (Dk.new N) F) (h4 : 4 ≤ N) (hN : N ≤ 4096) (hh : c.half ≤ 1) (hs : c.serial < 4294967295) :
    Calls Tryd.prog 20 #[.pointer (some ⟨gd, 0, none⟩), CrVal c] w fun e w' => Below w.heap.size w w' ∧ ∃ g G r z, e = .returned (.tuple #[.pointer (some ⟨g, 0, none⟩), .int .i64 0, .int .i64 0]) ∧ RlIn w' g gd r G ∧ (∀ k, G k → w.heap.size ≤ k) ∧ Live z r (Dk.new N) [] 0 ∧
      z.n = (c.from N).2 ∧ z.gen = c.gen ∧ z.S = c.serial + 1 ∧ r.fr = (c.from N).1 := by
  have hlen : (Dk.new N).safe.length = N := by show (List.replicate N (List.replicate 512 (0 : UInt8))).length = N; exact List.length_replicate
  obtain ⟨l1, l2, l3⟩ := live_new (N := N) (c := c) hN ok hs
  refine (ropen_any gd (Dk.new N) F c ok w hd hh (Nat.zero_le _)).mono ?_
  rintro e w' ⟨hb, -, h⟩
  rw [hlen] at h
  obtain ⟨s, P, so, hsc, -, hg⟩ := h h4
  rw [l1] at hsc
  cases hsc
  obtain ⟨g, G, he, hr, hG⟩ := hg rfl
  rw [← l2] at hr
  exact ⟨hb, g, G, _, _, he, hr, hG, l3, rfl, rfl, rfl, rfl⟩

theorem open_again_any (gx gd : Nat) (F : Nat → Prop) (c : Cr) (ok : c.Ok) (w : World) {z : Sess} {r : Rl} {d d' : Dk} {all : List (List UInt8)} {synced : Nat} (h : Live z r d all synced) (hd : DiskAt w gd d' F) (hh : c.half ≤ 1) (h4 : 4 ≤ d'.safe.length) (hx : gx = gd)
    (hcg : c.gen = z.gen) (hcs : c.serial ≤ z.S) (hz : z.S < 4294967290) (hfr : (c.from d'.safe.length) = (r.fr, r.n)) (hlen : d'.safe.length = d.safe.length)
    (hfree : d'.Free) (hw : d'.wait = []) (hcan : ∀ j, j < z.n → d.Can (r.fr + j) (d'.now (r.fr + j))) :
    Calls Tryd.prog 20 #[.pointer (some ⟨gx, 0, none⟩), CrVal c] w fun e w' => Below w.heap.size w w' ∧ ∃ g G r' z' k, e = .returned (.tuple #[.pointer (some ⟨g, 0, none⟩), .int .i64 0, .int .i64 0]) ∧ RlIn w' g gd r' G ∧ (∀ k, G k → w.heap.size ≤ k) ∧ synced ≤ k ∧ k ≤ all.length ∧
      Live z' r' d' (all.take k) (all.take k).length ∧ z'.n = z.n ∧ z'.gen = z.gen ∧ z'.S ≤ z.S + 1 ∧ c.serial < z'.S ∧ r'.fr = r.fr ∧ r'.serial = serialOf c d' := by
  subst hx
  obtain ⟨Q, so, k, a1, a2, a3, a4, a5, a6, a7⟩ := h.again (d' := d') c hcg hcs hz hfr hlen hfree hd.ok hw hcan
  have htop := (top_ge c.gen (halfOf d' (c.from d'.safe.length).1 (c.from d'.safe.length).2) c.serial).1
  have hser : c.serial < serialOf c d' := by
    have h1 := top_lt c.gen (halfOf d' (c.from d'.safe.length).1 (c.from d'.safe.length).2) c.serial ok.serial
    unfold serialOf at a5 a6 ⊢
    omega
  refine (ropen_any gx d' F c ok w hd hh (by rw [hw]; exact Nat.zero_le _)).mono ?_
  rintro e w' ⟨hb, -, hgood⟩
  obtain ⟨s, P, so', hsc, -, hg⟩ := hgood h4
  rw [a1] at hsc
  cases hsc
  obtain ⟨g, G, he, hr, hG⟩ := hg rfl
  rw [hfr] at hr
  rw [a2] at hr a7
  exact ⟨hb, g, G, _, _, k, he, hr, hG, a3, a4, a7, h.n, hcg, a5, hser, rfl, rfl⟩
end Go.Proofs.YtacfkhnajdneeaaDoor
