/- Merged: RlAt RlFrom RlSmall RlWrite RlAppP. -/
import Derived.Test.YtacfkhnajdneeaaDoorRlReadP
import Derived.Test.YtacfkhnajdneeaaDoorDkWrites
import Derived.Test.YtacfkhnajdneeaaDoorCrA
import Derived.Test.YtacfkhnajdneeaaDoorDkSync
import Derived.Test.YtacfkhnajdneeaaDoorDkWrite
/- A log in memory: its blocks, and what turns them. -/
namespace Go.Proofs.YtacfkhnajdneeaaDoor
open Go.RowKit

def U32 (n : Nat) : Value := .int .u32 n
theorem rowU : RowTy Tryd.prog 97 34 1 4 := RowTy.mk' (z := .int .u32 0) Tryd.underlying97 (by kernel_rfl) rfl (by omega)
theorem own_apart2 {b1 b2 n1 n2 s1 s2 e1 e2 : Nat} {w : World} {v1 v2 : Value} {xs1 xs2 : List Value} (h1 : w.ownsRow b1 e1 s1 v1 n1 xs1) (h2 : w.ownsRow b2 e2 s2 v2 n2 xs2) (hne : e2 ≠ e1) : ∀ k, v1.ownBlock = some k → ¬ v2.ownBlock = some k := fun k hk hk2 => by
  obtain ⟨cur, hc⟩ := own_block h2 hk2
  exact own_ne h1 hc hne hk

/-- an append to a row of one's own, and where it lies then -/
theorem wp_app' {P : Program} {w : World} {o : Oper} {a : Act} {K : Act → World → Prop} {Q : Exit → Act → World → Prop} (s x : Operand)
    (t e size bytes : Nat) (T : RowTy P t e size bytes) (ho : o.op = .call { callee := .builtin .append, args := #[s, x], argTypes := #[t, t] })
    (base : Nat) (v : Value) (n : Nat) (xs : List Value) (hs : a.eval s = v) (hown : w.ownsRow base e size v n xs)
    (ad : Addr) (m c : Nat) (news : List Value) (hx : a.eval x = .slice (some ad) m c) (hl : news.length = m * size) (hnews : ∀ j u, news[j]? = some u → w.cell? (ad.add j) = some u) (h1 : ∀ u ∈ news, u.oneCell' = true)
    (h63 : n + m ≤ maxLen) (hbytes : (n + m) * bytes ≤ 140737488355328) (hbase : base ≤ w.heap.size)
    (h : ∀ v' w', w'.ownsRow base e size v' (n + m) (xs ++ news) → w.grownBy w' v.ownBlock → Stays w v v' → K (a.put o.dst v') w') : o.wp P a w K Q := by
  obtain ⟨i, z, hi, hz, hsz, hby, hzs⟩ := T.ex
  obtain ⟨v', w', hr, h2, h3, h4⟩ := run_append_own' (P := P) (w := w) base t o.type e i z size bytes T.ht hi hz hsz hby hzs T.pos v n xs hown ad m c news hl hnews h1 h63 hbytes hbase
  unfold Oper.wp execOp
  simp only [ho, resolve, invoke, builtin, Sem.run_bind, Sem.run_pure, Result.andThen_ok, List.map_toArray, List.map_cons, List.map_nil, hs, hx, hr]
  exact h v' w' h2 h3 h4

theorem new1 (w : World) (u : Value) (T : Nat) : ∀ (j : Nat) (x : Value), [u][j]? = some x → (w.alloc (.cells #[u] T)).cell? ((⟨w.heap.size, 0, none⟩ : Addr).add j) = some x := fun j x hx => by
  rcases j with _ | j
  · cases hx
    exact cell_of_row _ w.heap.size 0 _ _ _ (heap_alloc_new w _)
  · cases hx

theorem DiskAt.apartT {w : World} {gd : Nat} {d : Dk} {F : Nat → Prop} (h : DiskAt w gd d F) {k T : Nat} {cs : Array Value} {fr : Nat × Nat} (hk : w.heap[k]? = some (.cells cs T fr)) (h1 : T ≠ 96) (h2 : T ≠ 104) (h3 : T ≠ 106) : ¬ F k := by
  obtain ⟨_, vs, vw, g1, g2, g3, g4⟩ := h
  intro hF
  rcases (g4 k).1 hF with rfl | e | e
  · rw [hk] at g1; cases g1; exact h1 rfl
  · exact own_ne g2 hk h2 e
  · exact own_ne g3 hk h3 e

/-- a log -/
structure Rl where
  gen : Nat
  fr : Nat
  n : Nat
  serial : Nat
  ls : List (List UInt8)
  so : List Nat

/-- a log in memory, the disk apart; the blocks that it turns -/
def RlIn (w : World) (g gd : Nat) (r : Rl) (G : Nat → Prop) : Prop := ∃ vl vp vs, RlRow w g gd r.gen r.fr r.n r.serial vl vp vs ∧ RecsAt 0 w vl r.ls ∧ Rec8 0 w vp (layAll r.ls) ∧ w.ownsRow 0 34 1 vs r.so.length (r.so.map U32) ∧ ∀ k, G k ↔ (k = g ∨ vl.ownBlock = some k ∨ vs.ownBlock = some k)

theorem RlIn.lt {w : World} {g gd : Nat} {r : Rl} {G : Nat → Prop} (h : RlIn w g gd r G) : ∀ k, G k → k < w.heap.size := by
  obtain ⟨vl, vp, vs, h1, ⟨us, -, h2, -⟩, -, h4, h5⟩ := h
  intro k hk
  rcases (h5 k).1 hk with rfl | e | e
  · exact h1.lt
  · exact (World.ownsRow.lt h2 k e).2
  · exact (World.ownsRow.lt h4 k e).2
theorem RlIn.kind {w : World} {g gd : Nat} {r : Rl} {G : Nat → Prop} (h : RlIn w g gd r G) {k : Nat} (hk : G k) : ∃ cs fr T, w.heap[k]? = some (.cells cs T fr) ∧ (T = 99 ∨ T = 23 ∨ T = 34) := by
  obtain ⟨vl, vp, vs, h1, ⟨us, -, h2, -⟩, -, h4, h5⟩ := h
  rcases (h5 k).1 hk with rfl | e | e
  · exact ⟨_, _, _, h1, .inl rfl⟩
  · obtain ⟨cur, hc⟩ := own_block h2 e
    exact ⟨_, _, _, hc, .inr (.inl rfl)⟩
  · obtain ⟨cur, hc⟩ := own_block h4 e
    exact ⟨_, _, _, hc, .inr (.inr rfl)⟩
theorem RlIn.only {w w' : World} {g gd : Nat} {r : Rl} {G S : Nat → Prop} (h : RlIn w g gd r G) (ho : Only w w' S) (hs : ∀ k, S k → ¬ G k ∧ ∀ cs fr, w.heap[k]? ≠ some (.cells cs 5 fr)) : RlIn w' g gd r G := by
  obtain ⟨vl, vp, vs, h1, h2, h3, h4, h5⟩ := h
  exact ⟨vl, vp, vs, h1.only ho fun e => (hs g e).1 ((h5 g).2 (.inl rfl)), h2.only ho fun k hk => ⟨(hs k hk).2, fun e => (hs k hk).1 ((h5 k).2 (.inr (.inl e)))⟩, h3.only ho fun k hk => (hs k hk).2,
    own_only h4 ho fun k e hk => (hs k hk).1 ((h5 k).2 (.inr (.inr e))), h5⟩
theorem RlIn.below {w w' : World} {g gd : Nat} {r : Rl} {G : Nat → Prop} (h : RlIn w g gd r G) (hb : Below w.heap.size w w') : RlIn w' g gd r G := h.only (Only.of_below hb fun _ => False) fun _ h => h.elim
theorem DiskAt.rl {w : World} {gd g gd' : Nat} {d : Dk} {F G : Nat → Prop} {r : Rl} (h : DiskAt w gd d F) (hr : RlIn w g gd' r G) : ∀ k, G k → ¬ F k := fun k hk => by
  obtain ⟨cs, fr, T, hc, hT⟩ := hr.kind hk
  rcases hT with rfl | rfl | rfl
  · exact h.apartT hc (by decide) (by decide) (by decide)
  · exact h.apartT hc (by decide) (by decide) (by decide)
  · exact h.apartT hc (by decide) (by decide) (by decide)
theorem DiskAt.no8 {w : World} {gd : Nat} {d : Dk} {F : Nat → Prop} (h : DiskAt w gd d F) : ∀ k, F k → ∀ cs fr, w.heap[k]? ≠ some (.cells cs 5 fr) := fun k hk cs fr e => h.apartT e (by decide) (by decide) (by decide) hk
theorem RlIn.no8 {w : World} {g gd : Nat} {r : Rl} {G : Nat → Prop} (h : RlIn w g gd r G) : ∀ k, G k → ∀ cs fr, w.heap[k]? ≠ some (.cells cs 5 fr) := fun k hk cs fr e => by
  obtain ⟨cs', fr', T, hc, hT⟩ := h.kind hk
  rw [e] at hc
  cases hc
  rcases hT with h | h | h <;> exact absurd h (by decide)
/-- the disk turns -/
theorem RlIn.moved {w w' : World} {g gd gd' : Nat} {r : Rl} {d : Dk} {F F' G : Nat → Prop} (h : RlIn w g gd r G) (hd : DiskAt w gd' d F) (hm : Moved w w' F F') : RlIn w' g gd r G :=
  h.only hm.only fun k hk => ⟨fun hg => hd.rl h k hg hk, hd.no8 k hk⟩
/-- it may always be written -/
def Dk.Free (d : Dk) : Prop := d.bound = false ∧ d.left = 0
theorem Dk.Free.may {d : Dk} (h : d.Free) : d.may = true := by unfold Dk.may; rw [h.1]; rfl
theorem Dk.Free.wrote {d : Dk} (h : d.Free) (i : Nat) (p : List UInt8) : (d.wrote i p).Free := ⟨h.1, by unfold Dk.wrote; rw [h.1]; exact h.2⟩
end Go.Proofs.YtacfkhnajdneeaaDoor
/- Crowns: From. -/
namespace Go.Proofs.YtacfkhnajdneeaaDoor
open Go.RowKit

theorem and_one (x : Nat) (hx : x < 256) : bits .and .u8 (x : Int) 1 = ((x % 2 : Nat) : Int) := by
  have h : ∀ y : Fin 256, bits .and .u8 (y.val : Int) 1 = ((y.val % 2 : Nat) : Int) := by decide +kernel
  exact h ⟨x, hx⟩

/-- the first sector of a half, and how many -/
def Cr.from (c : Cr) (n : Nat) : Nat × Nat := if n < 4 then (0, 0) else (2 + c.half % 2 * ((n - 2) / 2), (n - 2) / 2)

set_option maxRecDepth 20000 in
set_option maxHeartbeats 800000 in
theorem from_any (c : Cr) (n : Nat) (hn : n < 65536) (hh : c.half < 256) (w : World) :
    Calls Tryd.prog 34 #[CrVal c, .int .i64 n] w fun e w' => e = .returned (.tuple #[.int .i64 (c.from n).1, .int .i64 (c.from n).2]) ∧ Below w.heap.size w w' := by
  unfold CrVal
  have hand := and_one c.half hh
  obtain ⟨m, hm⟩ : ∃ m, m = c.half % 2 := ⟨_, rfl⟩
  have hm2 : m < 2 := by omega
  rw [← hm] at hand
  by_cases h4 : n < 4
  · have hf : c.from n = (0, 0) := by unfold Cr.from; rw [if_pos h4]
    rw [hf]
    have hk : decide ((n : Int) < 4) = true := decide_eq_true (by omega)
    clear hf hm hm2 hand
    go_enter Tryd.func34, Tryd.ntmps34
    go_wp2_with fail
    go_ret2
    exact ⟨rfl, bal (bre w) _⟩
  · obtain ⟨k, hk⟩ : ∃ k, k = (n - 2) / 2 := ⟨_, rfl⟩
    have hf : c.from n = (2 + m * k, k) := by unfold Cr.from; rw [if_neg h4, ← hm, ← hk]
    rw [hf]
    have hk1 : decide ((n : Int) < 4) = false := decide_eq_false (by omega)
    have hd : ((n : Int) - 2) / 2 = (k : Int) := by omega
    have hk3 : k < 32768 := by omega
    have hmk : m * k < 32768 := by
      rcases (by omega : m = 0 ∨ m = 1) with rfl | rfl <;> omega
    have hmul : (m : Int) * (k : Int) = ((m * k : Nat) : Int) := by simp
    obtain ⟨z, hz⟩ : ∃ z, z = m * k := ⟨_, rfl⟩
    rw [← hz] at hmk hmul ⊢
    have HH := Lib.hid hh
    clear hf hm hk hz hh
    go_enter Tryd.func34, Tryd.ntmps34
    go_wp2_with fail
    rw [hd, show (2 : Int) + (z : Int) = ((2 + z : Nat) : Int) by omega]
    go_ret2
    exact ⟨rfl, bal (bre w) _⟩
end Go.Proofs.YtacfkhnajdneeaaDoor
/- Walks: what a log tells of itself. -/
namespace Go.Proofs.YtacfkhnajdneeaaDoor
open Go.RowKit

section
variable (w : World) (g gd gen fr n serial : Nat) (vl vp vs : Value)

set_option maxRecDepth 10000 in
theorem rserial_any (hr : RlRow w g gd gen fr n serial vl vp vs) : Calls Tryd.prog 22 #[.pointer (some ⟨g, 0, none⟩)] w fun e w' => e = .returned (.int .u32 serial) ∧ w' = w := by
  have c6 := hr.c6
  clear hr
  go_enter Tryd.func22, Tryd.ntmps22
  go_wp2_with fail
  go_ret
  exact ⟨rfl, rfl⟩
set_option maxRecDepth 10000 in
theorem rserial_nil : Calls Tryd.prog 22 #[.pointer none] w fun e w' => e = .returned (.int .u32 0) ∧ w' = w := by
  go_enter Tryd.func22, Tryd.ntmps22
  go_wp2_with fail
  go_ret
  exact ⟨rfl, rfl⟩

set_option maxRecDepth 10000 in
theorem rcount_any (a : Option Addr) (k c : Nat) (hr : RlRow w g gd gen fr n serial (.slice a k c) vp vs) : Calls Tryd.prog 29 #[.pointer (some ⟨g, 0, none⟩)] w fun e w' => e = .returned (.int .i64 k) ∧ w' = w := by
  have c4 := hr.c4
  clear hr
  go_enter Tryd.func29, Tryd.ntmps29
  go_wp2_with fail
  go_ret
  exact ⟨rfl, rfl⟩
set_option maxRecDepth 10000 in
theorem rcount_nil : Calls Tryd.prog 29 #[.pointer none] w fun e w' => e = .returned (.int .i64 0) ∧ w' = w := by
  go_enter Tryd.func29, Tryd.ntmps29
  go_wp2_with fail
  go_ret
  exact ⟨rfl, rfl⟩

set_option maxRecDepth 10000 in
theorem rsize_any (a : Option Addr) (k c : Nat) (hr : RlRow w g gd gen fr n serial vl (.slice a k c) vs) : Calls Tryd.prog 32 #[.pointer (some ⟨g, 0, none⟩)] w fun e w' => e = .returned (.int .i64 k) ∧ w' = w := by
  have c5 := hr.c5
  clear hr
  go_enter Tryd.func32, Tryd.ntmps32
  go_wp2_with fail
  go_ret
  exact ⟨rfl, rfl⟩
set_option maxRecDepth 10000 in
theorem rsize_nil : Calls Tryd.prog 32 #[.pointer none] w fun e w' => e = .returned (.int .i64 0) ∧ w' = w := by
  go_enter Tryd.func32, Tryd.ntmps32
  go_wp2_with fail
  go_ret
  exact ⟨rfl, rfl⟩

set_option maxRecDepth 10000 in
set_option maxHeartbeats 800000 in
theorem rroom_any (a : Option Addr) (k c : Nat) (hn : n ≤ 5000) (hk : k ≤ 487 * n) (hr : RlRow w g gd gen fr n serial vl (.slice a k c) vs) : Calls Tryd.prog 23 #[.pointer (some ⟨g, 0, none⟩)] w fun e w' => e = .returned (.int .i64 ((487 * n - k : Nat) : Int)) ∧ Below w.heap.size w w' := by
  have c3 := hr.c3
  have c5 := hr.c5
  obtain ⟨m, hm⟩ : ∃ m, m = 487 * n - k := ⟨_, rfl⟩
  have hw1 : IntKind.i64.wrap ((n : Int) * 487) = ((n : Int) * 487) := by rw [IntKind.wrap_i64]; omega
  have hw2 : ((n : Int) * 487) - (k : Int) = (m : Int) := by omega
  rw [← hm]
  clear hr hm
  go_enter Tryd.func23, Tryd.ntmps23
  go_upto_region 3 with fail
  go_quiet (fail)
  go_wp2_with fail
  go_ret
  exact ⟨rfl, bdn (bre w) _⟩
set_option maxRecDepth 10000 in
theorem rroom_nil : Calls Tryd.prog 23 #[.pointer none] w fun e w' => e = .returned (.int .i64 0) ∧ w' = w := by
  go_enter Tryd.func23, Tryd.ntmps23
  go_wp2_with fail
  go_ret
  exact ⟨rfl, rfl⟩

set_option maxRecDepth 10000 in
theorem rsync_any (d : Dk) (F : Nat → Prop) (hd : DiskAt w gd d F) (hfree : d.Free) (hw : d.wait.length ≤ 1000000) (hr : RlRow w g gd gen fr n serial vl vp vs) :
    Calls Tryd.prog 21 #[.pointer (some ⟨g, 0, none⟩)] w fun e w' => ∃ F', e = .returned (.int .i64 0) ∧ DiskAt w' gd d.synced F' ∧ Moved w w' F F' := by
  have c0 := hr.c0
  have HS := Lib.hid (sync_ok gd d F w hd hfree.may (by rw [hfree.2]; omega) (by rw [hfree.2]; omega) hw)
  clear hr hd hfree hw
  go_enter Tryd.func21, Tryd.ntmps21
  go_wp2_with fail
  refine HS.out.mono ?_
  rintro e w2 ⟨F', rfl, hd2, hm2⟩
  have HD2 := Lib.hid hd2
  have HM2 := Lib.hid hm2
  clear hd2 hm2
  go_wp2_with fail
  go_ret
  exact ⟨F', rfl, HD2.out, HM2.out⟩
set_option maxRecDepth 10000 in
theorem rsync_nil : Calls Tryd.prog 21 #[.pointer none] w fun e w' => e = .returned (.int .i64 3) ∧ w' = w := by
  go_enter Tryd.func21, Tryd.ntmps21
  go_wp2_with fail
  go_ret
  exact ⟨rfl, rfl⟩

set_option maxRecDepth 10000 in
theorem rrecords_nil : Calls Tryd.prog 25 #[.pointer none] w fun e w' => e = .returned (.slice none 0 0) ∧ w' = w := by
  go_enter Tryd.func25, Tryd.ntmps25
  go_wp2_with fail
  go_ret
  exact ⟨rfl, rfl⟩

set_option maxRecDepth 20000 in
set_option maxHeartbeats 1600000 in
theorem rrecords_any (ls : List (List UInt8)) (hr : RlRow w g gd gen fr n serial vl vp vs) (hl : RecsAt 0 w vl ls) (hlen : ls.length ≤ 1000000) (hx : ∀ x ∈ ls, x.length ≤ 65536) :
    Calls Tryd.prog 25 #[.pointer (some ⟨g, 0, none⟩)] w fun e w' => ∃ v', e = .returned v' ∧ RecsAt w.heap.size w' v' ls ∧ Below w.heap.size w w' := by
  have hrow := hl.rows
  obtain ⟨a, c, rfl, hm, hc, -, hcl⟩ := id hrow
  have c4 := hr.c4
  have HR := Lib.hid hcl
  have HX := Lib.hid hx
  obtain ⟨L, hL⟩ : ∃ L, L = ls.length := ⟨_, rfl⟩
  rw [← hL] at hm hc hlen c4
  have HL := Lib.hid hL
  clear hr hl hrow hcl hL hx
  go_enter Tryd.func25, Tryd.ntmps25
  go_wp2_with fail
  clear c4
  go_loopw [3, 5, 13] (fun out _ i wr => ∃ k : Nat, k ≤ L ∧ i = .int .i64 k ∧ Hid (RecsAt w.heap.size wr out (ls.take k)) ∧ Hid (Below w.heap.size w wr)) (fun _ _ i _ => L - (intOf i).toNat)
  case atStart => exact ⟨0, by omega, rfl, Lib.hid (RecsAt.nil _ _), Lib.hid (bre w)⟩
  case round =>
    obtain ⟨k, hk, rfl, hown, hb⟩ := hrel
    by_cases hlt : k < L
    · have hkl : k < ls.length := by rw [← HL.out]; exact hlt
      rcases HR.out with h0 | ⟨b, o, rfl, hcell⟩
      · rw [h0] at hkl; simp at hkl
      · obtain ⟨u, hu, hbu⟩ := hcell k _ (List.getElem?_eq_getElem hkl)
        have hg : b < w.heap.size := block_lt_of_cell hu
        have hu' : wr.cell? ⟨b, o + k, none⟩ = some u := (hb.out.cell hg).trans hu
        have hbu' : Bytes wr u ls[k] := hbu.below hb.out
        have hxl := HX.out _ (List.getElem_mem hkl)
        have hts : ls.take (k + 1) = ls.take k ++ [ls[k]] := List.take_succ_eq_append_getElem hkl
        have htl : (ls.take k).length ≤ 1000000 := by rw [List.length_take]; omega
        have HTS := Lib.hid hts
        generalize ls[k] = x at *
        have HU := Lib.hid hbu'
        obtain ⟨au, cu, rfl, -, -, -, -⟩ := id hbu'
        clear hcell hu hbu hts hbu'
        go_wp2_with fail
        refine (clone_any _ x wr HU.out (by omega)).mono ?_
        rintro e w2 ⟨v2, rfl, ho2, hb2⟩
        have HB2 := Lib.hid (btr hb.out hb2)
        have HO2 := Lib.hid (hown.out.below hb2)
        have HRC := Lib.hid ((Rec8.of_own ho2).low hb.out.size)
        obtain ⟨a2, n2, c2, rfl⟩ := Rec8.isSlice HRC.out
        have hsz := HB2.out.size
        clear ho2 hb2 hown hb HU hu'
        go_wp2_with (at_builtin; refine wpList_appRec rfl _ _ rfl w.heap.size _ (ls.take k) rfl HO2.out _ x HRC.out _ rfl rfl (by omega) hsz ?_; intro v5 w5 ho5 hb5)
        have HB5 := Lib.hid (HB2.out.trans hb5)
        rw [← HTS.out] at ho5
        have HO5 := Lib.hid ho5
        clear ho5 hb5 HB2 HO2 HRC HTS
        go_wp2_with fail
        go_roundw
        case rel => exact ⟨k + 1, by omega, by go_num, HO5, HB5⟩
        case measure => simp [intOf]; omega
    · have e : k = L := by omega
      subst e
      have hl : ls.take k = ls := List.take_of_length_le (by rw [← HL.out]; exact Nat.le_refl _)
      rw [hl] at hown
      clear hl hlt hk HR HX
      go_wp2_with fail
      go_ret
      exact ⟨_, rfl, hown.out, hb.out⟩
end
end Go.Proofs.YtacfkhnajdneeaaDoor
/- Walk: a page of a log is written. -/
namespace Go.Proofs.YtacfkhnajdneeaaDoor
open Go.RowKit

theorem own_take {w : World} {base e N c i : Nat} {a : Option Addr} {xs : List Value} (h : w.ownsRow base e 1 (.slice a N c) N xs) (hi : i ≤ N) : w.ownsRow base e 1 (.slice a i c) i (xs.take i) := by
  obtain ⟨h1, h2⟩ := h
  refine ⟨by rw [List.length_take]; omega, ?_⟩
  rcases h2 with ⟨e, h0⟩ | ⟨g, cap, cur, e, hb, hg, hn, hm, hs, ht⟩
  · cases e
    left
    exact ⟨by rw [show i = 0 by omega], by omega⟩
  · cases e
    exact .inr ⟨g, c, cur, rfl, hb, hg, by omega, hm, hs, by rw [← ht, List.take_take]; congr 1; omega⟩

/-- the serial that a page names -/
def aheadOf (so : List Nat) (i : Nat) : Nat := if i = 0 then 0 else so.getD (i - 1) 0
theorem aheadOf_lt {so : List Nat} (h : ∀ s ∈ so, s < 4294967296) (i : Nat) : aheadOf so i < 4294967296 := by
  unfold aheadOf
  split
  · omega
  · rw [List.getD_eq_getElem?_getD]
    cases he : so[i - 1]? with
    | none => simp
    | some x => exact h x (List.mem_of_getElem? he)

set_option maxRecDepth 20000 in
set_option maxHeartbeats 3200000 in
theorem rwrite_any (g gd gen fr n serial i : Nat) (vl vp vs v : Value) (so : List Nat) (p : List UInt8) (d : Dk) (F : Nat → Prop) (w : World) (hd : DiskAt w gd d F) (hr : RlRow w g gd gen fr n serial vl vp vs) (hs : w.ownsRow 0 34 1 vs so.length (so.map U32)) (hv : Bytes w v p) (hp : p.length ≤ 487)
    (hi : fr + i < d.safe.length) (hso : i ≤ so.length) (h32 : ∀ s ∈ so, s < 4294967296) (hgen : gen < 4294967296) (hser : serial < 4294967296) (hfree : d.Free) (hc : d.count ≤ 1000000) (hw : d.wait.length ≤ 1000000) :
    Calls Tryd.prog 54 #[.pointer (some ⟨g, 0, none⟩), .int .i64 i, v] w fun e w' => ∃ vs' F', e = .returned (.int .i64 0) ∧ DiskAt w' gd (d.wrote (fr + i) (pgBytes gen serial i (aheadOf so i) p)) F' ∧ RlRow w' g gd gen fr n serial vl vp vs' ∧
      w'.ownsRow 0 34 1 vs' (i + 1) ((so.take i ++ [serial]).map U32) ∧ (vs'.ownBlock = vs.ownBlock ∨ ∀ k, vs'.ownBlock = some k → w.heap.size ≤ k) ∧ (∃ w1, Only w w1 (fun k => k = g ∨ vs.ownBlock = some k) ∧ DiskAt w1 gd d F ∧ Moved w1 w' F F') := by
  have hfew := hd.ok.few
  have hi4 : fr + i < 4096 := by omega
  obtain ⟨a, c, rfl, hm, hmc, -, -⟩ := id hv
  obtain ⟨as0, cs, rfl, hsc, hsm, -, hsl, -⟩ := ownsRow_lies hs
  have HV := Lib.hid hv
  have HD := Lib.hid hd
  have HR := Lib.hid hr
  have HS := Lib.hid hs
  have HSL := Lib.hid hsl
  have HI := Lib.hid hi
  have HFR := Lib.hid hfree
  have HC := Lib.hid hc
  have HW := Lib.hid hw
  have HP := Lib.hid hp
  have HA := Lib.hid (aheadOf_lt h32 i)
  obtain ⟨L, hL⟩ : ∃ L, L = p.length := ⟨_, rfl⟩
  rw [← hL] at hm hmc hp HV ⊢
  have HL := Lib.hid hL
  obtain ⟨N, hN⟩ : ∃ N, N = so.length := ⟨_, rfl⟩
  have c7 := hr.c7
  rw [← hN] at hsc hso HS c7 HR ⊢
  have HN := Lib.hid hN
  obtain ⟨A, hA⟩ : ∃ A, A = aheadOf so i := ⟨_, rfl⟩
  rw [← hA] at HA ⊢
  have HAO := Lib.hid hA
  clear hv hd hr hs hsl hi hfree hc hw hL hN hA hfew h32 hm hmc
  obtain ⟨B, hB⟩ : ∃ B, B = decide (0 < i) := ⟨_, rfl⟩
  have d1 : decide ((0 : Int) < (i : Int)) = B := by rw [hB]; exact decide_eq_decide.2 (by omega)
  have d2 : decide (0 < i) = B := hB.symm
  have HBB := Lib.hid hB
  clear hB
  go_enter Tryd.func54, Tryd.ntmps54
  go_upto_if 12 with fail
  go_cut [7] from 12 to 20 (fun t w' => t = .int .u32 A ∧ w' = w)
  case first =>
    by_cases h0 : i = 0
    · have hA0 : A = 0 := by rw [HAO.out, h0]; rfl
      have hB0 : B = false := by rw [HBB.out]; exact decide_eq_false (by omega)
      subst hB0
      subst hA0
      clear h0
      go_wp2_with fail
      go_meet
      exact ⟨rfl, rfl⟩
    · obtain ⟨j, rfl⟩ : ∃ j, i = j + 1 := ⟨i - 1, by omega⟩
      have hAj : (so.map U32)[j]? = some (.int .u32 A) := by
        rw [List.getElem?_map, HAO.out]
        unfold aheadOf
        rw [if_neg (by omega), Nat.add_sub_cancel, List.getD_eq_getElem?_getD, List.getElem?_eq_getElem (by rw [← HN.out]; omega)]
        rfl
      rcases HSL.out with h0' | ⟨b, o, rfl, hrow⟩
      · have := congrArg List.length h0'
        rw [List.length_map, ← HN.out] at this
        simp at this
        omega
      have hcell := hrow j _ hAj
      have hB0 : B = true := by rw [HBB.out]; exact decide_eq_true (by omega)
      subst hB0
      clear hrow hAj h0 d1 d2
      go_wp2_with fail
      go_meet
      exact ⟨rfl, rfl⟩
  case rest =>
    obtain ⟨rfl, hwc⟩ := hcut
    have hwc' := hwc.symm
    subst hwc'
    clear hwc d1 d2 HBB HSL
    have hwi : IntKind.u32.wrap (i : Int) = (i : Int) := by simp [IntKind.wrap, IntKind.signed, IntKind.bits]; omega
    go_upto_region 4 with fail
    have HSB : Hid (∀ w', Below w.heap.size w w' → (w'.cell? ⟨g, 1, none⟩ = some (.int .u32 gen) ∧ w'.cell? ⟨g, 6, none⟩ = some (.int .u32 serial))) := Lib.hid fun w' hb => ⟨(HR.out.below hb).c1, (HR.out.below hb).c6⟩
    have HB := Lib.hid (bdr (bre w))
    have HY := Lib.hid (HV.out.below HB.out)
    clear c7
    go_cut [8] from 21 to 35 (fun t w' => ∃ (n8 : Nat) (ad : Option Addr) (c8 : Nat), t = .pointer (some ⟨n8, 0, none⟩) ∧ Hid (Row5 w' n8 ⟨gen, serial, i, 1, be4 A ++ p⟩ (.slice ad (4 + L) c8)) ∧ Hid (Bytes w' (.slice ad (4 + L) c8) (be4 A ++ p)) ∧ Hid (Below w.heap.size w w'))
    case first =>
      refine region_anyZ (z := 16) (S := fun w' => (w'.cell? ⟨g, 1, none⟩ = some (.int .u32 gen) ∧ w'.cell? ⟨g, 6, none⟩ = some (.int .u32 serial))) (by kernel_rfl) ?_
      refine anyZ_begin (fun hcl0 => ?_)
      refine anyZ_held (by exact HSB.out _ (bdr (bre w))) (fun hHeld => ?_)
      -- 0: Op.move (Operand.tmp 0)
      refine' anyZ_pure (i := 0) (v := _) rfl (by rfl) (by kernel_rfl) (by kernel_rfl) (by kernel_rfl) hcl0 (fun _ _ _ h => h) (Or.inl ⟨by rfl, fun w _ => ?hy1⟩) (fun _ => hHeld) (fun hcl1 => ?ry1)
      case hy1 => (simp only [List.getElem_toArray, List.getElem_cons_zero]; first | (go_simp; with_reducible rfl) | (go_simp; done) | rfl)
      simp only [List.getElem_toArray, List.getElem_cons_zero, Act.put, List.setIfInBounds_toArray, List.set_cons_zero, List.set_cons_succ]
      -- 1: Op.nilCheck (Operand.tmp 21)
      refine' anyZ_pure (i := 1) (v := _) rfl (by rfl) (by kernel_rfl) (by kernel_rfl) (by kernel_rfl) hcl1 (fun _ _ _ h => h) (Or.inl ⟨by rfl, fun w _ => ?hy2⟩) (fun _ => hHeld) (fun hcl2 => ?ry2)
      case hy2 => (simp only [List.getElem_toArray, List.getElem_cons_succ, List.getElem_cons_zero]; first | (go_simp; with_reducible rfl) | (go_simp; done) | rfl)
      simp only [List.getElem_toArray, List.getElem_cons_succ, List.getElem_cons_zero, Act.put, List.setIfInBounds_toArray, List.set_cons_zero, List.set_cons_succ]
      -- 2: Op.fieldAddr 99 (Operand.tmp 22) 1
      refine' anyZ_pure (i := 2) (v := _) rfl (by rfl) (by kernel_rfl) (by kernel_rfl) (by kernel_rfl) hcl2 (fun _ _ _ h => h) (Or.inl ⟨by rfl, fun w _ => ?hy3⟩) (fun _ => hHeld) (fun hcl3 => ?ry3)
      case hy3 => (simp only [List.getElem_toArray, List.getElem_cons_succ, List.getElem_cons_zero]; first | (go_simp; with_reducible rfl) | (go_simp; done) | rfl)
      simp only [List.getElem_toArray, List.getElem_cons_succ, List.getElem_cons_zero, Act.put, List.setIfInBounds_toArray, List.set_cons_zero, List.set_cons_succ]
      -- 3: Op.load 34 (Operand.tmp 23)
      refine' anyZ_take (i := 3) (v := _) rfl (by rfl) (by kernel_rfl) (by kernel_rfl) (by kernel_rfl) hcl3 8 (by kernel_rfl) (by kernel_rfl) (fun _ _ _ h => h) (Or.inl ⟨by rfl, fun w hSw => ?hy4⟩) hHeld (fun hcl4 => ?ry4)
      case hy4 => (simp only [List.getElem_toArray, List.getElem_cons_succ, List.getElem_cons_zero]; obtain ⟨hS1, hS2⟩ := hSw; first | (go_simp; with_reducible rfl) | (go_simp; done) | rfl)
      simp only [List.getElem_toArray, List.getElem_cons_succ, List.getElem_cons_zero, Act.put, List.setIfInBounds_toArray, List.set_cons_zero, List.set_cons_succ]
      -- 4: Op.move (Operand.tmp 0)
      refine' anyZ_pure (i := 4) (v := _) rfl (by rfl) (by kernel_rfl) (by kernel_rfl) (by kernel_rfl) hcl4 (fun _ _ _ h => h) (Or.inl ⟨by rfl, fun w _ => ?hy5⟩) (fun _ => hHeld) (fun hcl5 => ?ry5)
      case hy5 => (simp only [List.getElem_toArray, List.getElem_cons_succ, List.getElem_cons_zero]; first | (go_simp; with_reducible rfl) | (go_simp; done) | rfl)
      simp only [List.getElem_toArray, List.getElem_cons_succ, List.getElem_cons_zero, Act.put, List.setIfInBounds_toArray, List.set_cons_zero, List.set_cons_succ]
      -- 5: Op.nilCheck (Operand.tmp 25)
      refine' anyZ_pure (i := 5) (v := _) rfl (by rfl) (by kernel_rfl) (by kernel_rfl) (by kernel_rfl) hcl5 (fun _ _ _ h => h) (Or.inl ⟨by rfl, fun w _ => ?hy6⟩) (fun _ => hHeld) (fun hcl6 => ?ry6)
      case hy6 => (simp only [List.getElem_toArray, List.getElem_cons_succ, List.getElem_cons_zero]; first | (go_simp; with_reducible rfl) | (go_simp; done) | rfl)
      simp only [List.getElem_toArray, List.getElem_cons_succ, List.getElem_cons_zero, Act.put, List.setIfInBounds_toArray, List.set_cons_zero, List.set_cons_succ]
      -- 6: Op.fieldAddr 99 (Operand.tmp 26) 6
      refine' anyZ_pure (i := 6) (v := _) rfl (by rfl) (by kernel_rfl) (by kernel_rfl) (by kernel_rfl) hcl6 (fun _ _ _ h => h) (Or.inl ⟨by rfl, fun w _ => ?hy7⟩) (fun _ => hHeld) (fun hcl7 => ?ry7)
      case hy7 => (simp only [List.getElem_toArray, List.getElem_cons_succ, List.getElem_cons_zero]; first | (go_simp; with_reducible rfl) | (go_simp; done) | rfl)
      simp only [List.getElem_toArray, List.getElem_cons_succ, List.getElem_cons_zero, Act.put, List.setIfInBounds_toArray, List.set_cons_zero, List.set_cons_succ]
      -- 7: Op.load 34 (Operand.tmp 27)
      refine' anyZ_take (i := 7) (v := _) rfl (by rfl) (by kernel_rfl) (by kernel_rfl) (by kernel_rfl) hcl7 8 (by kernel_rfl) (by kernel_rfl) (fun _ _ _ h => h) (Or.inl ⟨by rfl, fun w hSw => ?hy8⟩) hHeld (fun hcl8 => ?ry8)
      case hy8 => (simp only [List.getElem_toArray, List.getElem_cons_succ, List.getElem_cons_zero]; obtain ⟨hS1, hS2⟩ := hSw; first | (go_simp; with_reducible rfl) | (go_simp; done) | rfl)
      simp only [List.getElem_toArray, List.getElem_cons_succ, List.getElem_cons_zero, Act.put, List.setIfInBounds_toArray, List.set_cons_zero, List.set_cons_succ]
      -- 8: Op.move (Operand.tmp 1)
      refine' anyZ_pure (i := 8) (v := _) rfl (by rfl) (by kernel_rfl) (by kernel_rfl) (by kernel_rfl) hcl8 (fun _ _ _ h => h) (Or.inl ⟨by rfl, fun w _ => ?hy9⟩) (fun _ => hHeld) (fun hcl9 => ?ry9)
      case hy9 => (simp only [List.getElem_toArray, List.getElem_cons_succ, List.getElem_cons_zero]; first | (go_simp; with_reducible rfl) | (go_simp; done) | rfl)
      simp only [List.getElem_toArray, List.getElem_cons_succ, List.getElem_cons_zero, Act.put, List.setIfInBounds_toArray, List.set_cons_zero, List.set_cons_succ]
      -- 9: Op.convert 3 34 (Operand.tmp 29)
      refine' anyZ_pure (i := 9) (v := _) rfl (by rfl) (by kernel_rfl) (by kernel_rfl) (by kernel_rfl) hcl9 (fun _ _ _ h => h) (Or.inl ⟨by rfl, fun w _ => ?hy10⟩) (fun _ => hHeld) (fun hcl10 => ?ry10)
      case hy10 => (simp only [List.getElem_toArray, List.getElem_cons_succ, List.getElem_cons_zero]; first | (go_simp; with_reducible rfl) | (go_simp; done) | rfl)
      simp only [List.getElem_toArray, List.getElem_cons_succ, List.getElem_cons_zero, Act.put, List.setIfInBounds_toArray, List.set_cons_zero, List.set_cons_succ]
      -- 10: Op.move (Operand.tmp 7)
      refine' anyZ_pure (i := 10) (v := _) rfl (by rfl) (by kernel_rfl) (by kernel_rfl) (by kernel_rfl) hcl10 (fun _ _ _ h => h) (Or.inl ⟨by rfl, fun w _ => ?hy11⟩) (fun _ => hHeld) (fun hcl11 => ?ry11)
      case hy11 => (simp only [List.getElem_toArray, List.getElem_cons_succ, List.getElem_cons_zero]; first | (go_simp; with_reducible rfl) | (go_simp; done) | rfl)
      simp only [List.getElem_toArray, List.getElem_cons_succ, List.getElem_cons_zero, Act.put, List.setIfInBounds_toArray, List.set_cons_zero, List.set_cons_succ]
      -- 12: Op.move (Operand.tmp 2)
      refine' anyZ_pure (i := 12) (v := _) rfl (by rfl) (by kernel_rfl) (by kernel_rfl) (by kernel_rfl) hcl11 (fun _ _ _ h => h) (Or.inl ⟨by rfl, fun w _ => ?hy12⟩) (fun _ => hHeld) (fun hcl12 => ?ry12)
      case hy12 => (simp only [List.getElem_toArray, List.getElem_cons_succ, List.getElem_cons_zero]; first | (go_simp; with_reducible rfl) | (go_simp; done) | rfl)
      simp only [List.getElem_toArray, List.getElem_cons_succ, List.getElem_cons_zero, Act.put, List.setIfInBounds_toArray, List.set_cons_zero, List.set_cons_succ]
      refine anyZ_twoG (i := 11) (j := 15) hcl12 (by kernel_rfl) (by simp only [List.getElem?_toArray, List.getElem?_cons_succ, List.getElem?_cons_zero]; rfl) (by rfl) (by simp only [List.getElem?_toArray, List.getElem?_cons_succ, List.getElem?_cons_zero]; rfl) (by rfl) (fun hcl13 K hK => ?_) (fun hcl13 K hK => ?_)
      · go_simp
        refine (rfour_any A HA.out _).mono ?_
        rintro e wc ⟨v3, rfl, ho3, hb3⟩
        have HB2 := Lib.hid (btr HB.out hb3)
        have HY2 := Lib.hid (HY.out.below hb3)
        have HO := Lib.hid ((Rec8.of_own ho3).low (Nat.le_refl _))
        have HW := Lib.hid ho3
        have HBS : Hid (w.heap.size ≤ w.drew.heap.size) := Lib.hid HB.out.size
        clear ho3 hb3 HB HY HO
        have HB := HB2
        have HY := HY2
        have HO : Hid (Own8 5 w.heap.size wc v3 (be4 A)) := Lib.hid (ownsRow_base HW.out HBS.out)
        clear HB2 HY2 HW HBS
        refine hK _ _ (fun _ => HSB.out _ HB.out) ?_
        clear hK K
        try simp only [Act.put, List.setIfInBounds_toArray, List.set_cons_zero, List.set_cons_succ]
        refine anyZ_twoG (i := 13) (j := 15) hcl13 (by kernel_rfl) (by simp only [List.getElem?_toArray, List.getElem?_cons_succ, List.getElem?_cons_zero]; rfl) (by rfl) (by simp only [List.getElem?_toArray, List.getElem?_cons_succ, List.getElem?_cons_zero]; rfl) (by rfl) (fun hcl14 K hK => ?_) (fun hcl14 K hK => ?_)
        · refine wp_app8 _ _ 23 5 row8 rfl w.heap.size _ (be4 A) rfl HO.out _ p rfl HY.out (by rw [be4_len, ← HL.out]; omega) HB.out.size ?_
          intro v4 wa ho4 hg4 hs4
          have HO4 := Lib.hid ho4
          have HB2 : Hid (Below w.heap.size w wa) := Lib.hid (HB.out.trans ((Below.refl _ _).grown hg4 HB.out.size (fun k hk => (World.ownsRow.lt HO.out k hk).1)))
          obtain ⟨a4, c4, hv4⟩ : ∃ a c, v4 = .slice a (4 + L) c := by obtain ⟨a, c, e, -⟩ := ho4.bytes; exact ⟨a, c, by rw [e, List.length_append, be4_len, ← HL.out]⟩
          subst hv4
          clear ho4 hg4 hs4 HB HO HY
          have HB := HB2
          clear HB2
          refine hK _ _ (fun _ => HSB.out _ HB.out) ?_
          clear hK K
          try simp only [Act.put, List.setIfInBounds_toArray, List.set_cons_zero, List.set_cons_succ]
          refine anyZ_twoG (i := 14) (j := 15) hcl14 (by kernel_rfl) (by simp only [List.getElem?_toArray, List.getElem?_cons_succ, List.getElem?_cons_zero]; rfl) (by rfl) (by simp only [List.getElem?_toArray, List.getElem?_cons_succ, List.getElem?_cons_zero]; rfl) (by rfl) (fun hcl15 K hK => ?_) (fun hcl15 K hK => ?_)
          · go_simp
            refine hK _ _ (fun _ => HSB.out _ HB.out) ?_
            clear hK K
            try simp only [Act.put, List.setIfInBounds_toArray, List.set_cons_zero, List.set_cons_succ]
            refine anyZ_oneG (i := 15) hcl15 (by kernel_rfl) (by simp only [List.getElem?_toArray, List.getElem?_cons_succ, List.getElem?_cons_zero]; rfl) (by rfl) (fun hcl16 K hK => ?_)
            go_simp
            have hb15 := bal (bre wa) (.cells #[.int .u32 0, .int .u32 0, .int .u32 0, .int .u8 0, .slice none 0 0] 122)
            have HZ : Hid (Row5 (wa.alloc (.cells #[.int .u32 0, .int .u32 0, .int .u32 0, .int .u8 0, .slice none 0 0] 122)) wa.heap.size ⟨0, 0, 0, 0, []⟩ (.slice none 0 0)) := Lib.hid (heap_alloc_new wa _)
            have HB2 := Lib.hid (btr HB.out hb15)
            have HO42 := Lib.hid (Own8.kept HO4.out (Nat.le_refl _) hb15)
            generalize (wa.alloc (.cells #[.int .u32 0, .int .u32 0, .int .u32 0, .int .u8 0, .slice none 0 0] 122)) = wal at *
            obtain ⟨n8, hn8⟩ : ∃ n, n = wa.heap.size := ⟨_, rfl⟩
            have HGE : Hid (w.heap.size ≤ n8) := Lib.hid (by rw [hn8]; exact HB.out.size)
            rw [← hn8] at HZ
            try rw [← hn8]
            clear hn8 hb15 HB HO4
            have HB := HB2
            have HO4 := HO42
            clear HB2 HO42
            refine hK _ _ (fun _ => HSB.out _ HB.out) ?_
            clear hK K
            try simp only [Act.put, List.setIfInBounds_toArray, List.set_cons_zero, List.set_cons_succ]
            refine anyZ_chain_at (by kernel_rfl) ?_
            simp only [List.drop_succ_cons, List.drop_zero]
            have z0 := HZ.out.c0
            have z1 := HZ.out.c1
            have z2 := HZ.out.c2
            have z3 := HZ.out.c3
            have z4 := HZ.out.c4
            have zf := HZ.out.fz
            have HP5 := Lib.hid (page_put ⟨gen, serial, i, 1, be4 A ++ p⟩ (.slice a4 (4 + L) c4) HZ.out)
            go_wp2_with fail
            go_meet
            case rel => exact ⟨n8, a4, c4, rfl, Lib.hid HP5.out.1, Lib.hid (Own8.bytes (own_only HO4.out HP5.out.2.1 (fun k hk e => own_ne HO4.out HZ.out (by decide) (by rw [← (show k = n8 from e)]; exact hk)))), Lib.hid (HB.out.trans (HP5.out.2.1.below w.heap.size HB.out.size (fun k hk e => by have e' : k = n8 := e; have := HGE.out; omega)))⟩
          · go_simp
            have hb15 := bal (bre wa) (.cells #[.int .u32 0, .int .u32 0, .int .u32 0, .int .u8 0, .slice none 0 0] 122)
            have HZ : Hid (Row5 (wa.alloc (.cells #[.int .u32 0, .int .u32 0, .int .u32 0, .int .u8 0, .slice none 0 0] 122)) wa.heap.size ⟨0, 0, 0, 0, []⟩ (.slice none 0 0)) := Lib.hid (heap_alloc_new wa _)
            have HB2 := Lib.hid (btr HB.out hb15)
            have HO42 := Lib.hid (Own8.kept HO4.out (Nat.le_refl _) hb15)
            generalize (wa.alloc (.cells #[.int .u32 0, .int .u32 0, .int .u32 0, .int .u8 0, .slice none 0 0] 122)) = wal at *
            obtain ⟨n8, hn8⟩ : ∃ n, n = wa.heap.size := ⟨_, rfl⟩
            have HGE : Hid (w.heap.size ≤ n8) := Lib.hid (by rw [hn8]; exact HB.out.size)
            rw [← hn8] at HZ
            try rw [← hn8]
            clear hn8 hb15 HB HO4
            have HB := HB2
            have HO4 := HO42
            clear HB2 HO42
            refine hK _ _ (fun _ => HSB.out _ HB.out) ?_
            clear hK K
            try simp only [Act.put, List.setIfInBounds_toArray, List.set_cons_zero, List.set_cons_succ]
            refine anyZ_oneG (i := 14) hcl15 (by kernel_rfl) (by simp only [List.getElem?_toArray, List.getElem?_cons_succ, List.getElem?_cons_zero]; rfl) (by rfl) (fun hcl16 K hK => ?_)
            go_simp
            refine hK _ _ (fun _ => HSB.out _ HB.out) ?_
            clear hK K
            try simp only [Act.put, List.setIfInBounds_toArray, List.set_cons_zero, List.set_cons_succ]
            refine anyZ_chain_at (by kernel_rfl) ?_
            simp only [List.drop_succ_cons, List.drop_zero]
            have z0 := HZ.out.c0
            have z1 := HZ.out.c1
            have z2 := HZ.out.c2
            have z3 := HZ.out.c3
            have z4 := HZ.out.c4
            have zf := HZ.out.fz
            have HP5 := Lib.hid (page_put ⟨gen, serial, i, 1, be4 A ++ p⟩ (.slice a4 (4 + L) c4) HZ.out)
            go_wp2_with fail
            go_meet
            case rel => exact ⟨n8, a4, c4, rfl, Lib.hid HP5.out.1, Lib.hid (Own8.bytes (own_only HO4.out HP5.out.2.1 (fun k hk e => own_ne HO4.out HZ.out (by decide) (by rw [← (show k = n8 from e)]; exact hk)))), Lib.hid (HB.out.trans (HP5.out.2.1.below w.heap.size HB.out.size (fun k hk e => by have e' : k = n8 := e; have := HGE.out; omega)))⟩
        · go_simp
          have hb15 := bal (bre wc) (.cells #[.int .u32 0, .int .u32 0, .int .u32 0, .int .u8 0, .slice none 0 0] 122)
          have HZ : Hid (Row5 (wc.alloc (.cells #[.int .u32 0, .int .u32 0, .int .u32 0, .int .u8 0, .slice none 0 0] 122)) wc.heap.size ⟨0, 0, 0, 0, []⟩ (.slice none 0 0)) := Lib.hid (heap_alloc_new wc _)
          have HB2 := Lib.hid (btr HB.out hb15)
          have HY2 := Lib.hid (HY.out.below hb15)
          have HO2 := Lib.hid (Own8.kept HO.out (Nat.le_refl _) hb15)
          generalize (wc.alloc (.cells #[.int .u32 0, .int .u32 0, .int .u32 0, .int .u8 0, .slice none 0 0] 122)) = wal at *
          obtain ⟨n8, hn8⟩ : ∃ n, n = wc.heap.size := ⟨_, rfl⟩
          have HGE : Hid (w.heap.size ≤ n8) := Lib.hid (by rw [hn8]; exact HB.out.size)
          rw [← hn8] at HZ
          try rw [← hn8]
          clear hn8 hb15 HB HY HO
          have HB := HB2
          have HY := HY2
          have HO := HO2
          clear HB2 HY2 HO2
          refine hK _ _ (fun _ => HSB.out _ HB.out) ?_
          clear hK K
          try simp only [Act.put, List.setIfInBounds_toArray, List.set_cons_zero, List.set_cons_succ]
          refine anyZ_oneG (i := 13) hcl14 (by kernel_rfl) (by simp only [List.getElem?_toArray, List.getElem?_cons_succ, List.getElem?_cons_zero]; rfl) (by rfl) (fun hcl15 K hK => ?_)
          refine wp_app8 _ _ 23 5 row8 rfl w.heap.size _ (be4 A) rfl HO.out _ p rfl HY.out (by rw [be4_len, ← HL.out]; omega) HB.out.size ?_
          intro v4 wa ho4 hg4 hs4
          have HO4 := Lib.hid ho4
          have HB2 : Hid (Below w.heap.size w wa) := Lib.hid (HB.out.trans ((Below.refl _ _).grown hg4 HB.out.size (fun k hk => (World.ownsRow.lt HO.out k hk).1)))
          have HZ2 := Lib.hid (HZ.out.only (Only.of_grown hg4) (own_ne HO.out HZ.out (by decide)))
          obtain ⟨a4, c4, hv4⟩ : ∃ a c, v4 = .slice a (4 + L) c := by obtain ⟨a, c, e, -⟩ := ho4.bytes; exact ⟨a, c, by rw [e, List.length_append, be4_len, ← HL.out]⟩
          subst hv4
          clear ho4 hg4 hs4 HB HO HY HZ
          have HB := HB2
          have HZ := HZ2
          clear HB2 HZ2
          refine hK _ _ (fun _ => HSB.out _ HB.out) ?_
          clear hK K
          try simp only [Act.put, List.setIfInBounds_toArray, List.set_cons_zero, List.set_cons_succ]
          refine anyZ_oneG (i := 14) hcl15 (by kernel_rfl) (by simp only [List.getElem?_toArray, List.getElem?_cons_succ, List.getElem?_cons_zero]; rfl) (by rfl) (fun hcl16 K hK => ?_)
          go_simp
          refine hK _ _ (fun _ => HSB.out _ HB.out) ?_
          clear hK K
          try simp only [Act.put, List.setIfInBounds_toArray, List.set_cons_zero, List.set_cons_succ]
          refine anyZ_chain_at (by kernel_rfl) ?_
          simp only [List.drop_succ_cons, List.drop_zero]
          have z0 := HZ.out.c0
          have z1 := HZ.out.c1
          have z2 := HZ.out.c2
          have z3 := HZ.out.c3
          have z4 := HZ.out.c4
          have zf := HZ.out.fz
          have HP5 := Lib.hid (page_put ⟨gen, serial, i, 1, be4 A ++ p⟩ (.slice a4 (4 + L) c4) HZ.out)
          go_wp2_with fail
          go_meet
          case rel => exact ⟨n8, a4, c4, rfl, Lib.hid HP5.out.1, Lib.hid (Own8.bytes (own_only HO4.out HP5.out.2.1 (fun k hk e => own_ne HO4.out HZ.out (by decide) (by rw [← (show k = n8 from e)]; exact hk)))), Lib.hid (HB.out.trans (HP5.out.2.1.below w.heap.size HB.out.size (fun k hk e => by have e' : k = n8 := e; have := HGE.out; omega)))⟩
      · go_simp
        have hb15 := bdr (bal (bre w) (.cells #[.int .u32 0, .int .u32 0, .int .u32 0, .int .u8 0, .slice none 0 0] 122))
        have HZ : Hid (Row5 ((w.alloc (.cells #[.int .u32 0, .int .u32 0, .int .u32 0, .int .u8 0, .slice none 0 0] 122)).drew) w.heap.size ⟨0, 0, 0, 0, []⟩ (.slice none 0 0)) := Lib.hid (heap_alloc_new w _)
        have HB2 := Lib.hid (hb15)
        have HY2 := Lib.hid (HV.out.below hb15)
        generalize ((w.alloc (.cells #[.int .u32 0, .int .u32 0, .int .u32 0, .int .u8 0, .slice none 0 0] 122)).drew) = wal at *
        obtain ⟨n8, hn8⟩ : ∃ n, n = w.heap.size := ⟨_, rfl⟩
        have HGE : Hid (w.heap.size ≤ n8) := Lib.hid (by rw [hn8]; exact HB.out.size)
        rw [← hn8] at HZ
        try rw [← hn8]
        clear hn8 hb15 HB HY
        have HB := HB2
        have HY := HY2
        clear HB2 HY2
        refine hK _ _ (fun _ => HSB.out _ HB.out) ?_
        clear hK K
        try simp only [Act.put, List.setIfInBounds_toArray, List.set_cons_zero, List.set_cons_succ]
        refine anyZ_oneG (i := 11) hcl13 (by kernel_rfl) (by simp only [List.getElem?_toArray, List.getElem?_cons_succ, List.getElem?_cons_zero]; rfl) (by rfl) (fun hcl14 K hK => ?_)
        go_simp
        refine (rfour_any A HA.out _).mono ?_
        rintro e wc ⟨v3, rfl, ho3, hb3⟩
        have HB2 := Lib.hid (btr HB.out hb3)
        have HY2 := Lib.hid (HY.out.below hb3)
        have HO := Lib.hid ((Rec8.of_own ho3).low (Nat.le_refl _))
        have HW := Lib.hid ho3
        have HBS : Hid (w.heap.size ≤ wal.heap.size) := Lib.hid HB.out.size
        have HZ2 := Lib.hid (HZ.out.below hb3)
        clear ho3 hb3 HB HY HO HZ
        have HB := HB2
        have HY := HY2
        have HO : Hid (Own8 5 w.heap.size wc v3 (be4 A)) := Lib.hid (ownsRow_base HW.out HBS.out)
        have HZ := HZ2
        clear HB2 HY2 HW HBS HZ2
        refine hK _ _ (fun _ => HSB.out _ HB.out) ?_
        clear hK K
        try simp only [Act.put, List.setIfInBounds_toArray, List.set_cons_zero, List.set_cons_succ]
        refine anyZ_oneG (i := 13) hcl14 (by kernel_rfl) (by simp only [List.getElem?_toArray, List.getElem?_cons_succ, List.getElem?_cons_zero]; rfl) (by rfl) (fun hcl15 K hK => ?_)
        refine wp_app8 _ _ 23 5 row8 rfl w.heap.size _ (be4 A) rfl HO.out _ p rfl HY.out (by rw [be4_len, ← HL.out]; omega) HB.out.size ?_
        intro v4 wa ho4 hg4 hs4
        have HO4 := Lib.hid ho4
        have HB2 : Hid (Below w.heap.size w wa) := Lib.hid (HB.out.trans ((Below.refl _ _).grown hg4 HB.out.size (fun k hk => (World.ownsRow.lt HO.out k hk).1)))
        have HZ2 := Lib.hid (HZ.out.only (Only.of_grown hg4) (own_ne HO.out HZ.out (by decide)))
        obtain ⟨a4, c4, hv4⟩ : ∃ a c, v4 = .slice a (4 + L) c := by obtain ⟨a, c, e, -⟩ := ho4.bytes; exact ⟨a, c, by rw [e, List.length_append, be4_len, ← HL.out]⟩
        subst hv4
        clear ho4 hg4 hs4 HB HO HY HZ
        have HB := HB2
        have HZ := HZ2
        clear HB2 HZ2
        refine hK _ _ (fun _ => HSB.out _ HB.out) ?_
        clear hK K
        try simp only [Act.put, List.setIfInBounds_toArray, List.set_cons_zero, List.set_cons_succ]
        refine anyZ_oneG (i := 14) hcl15 (by kernel_rfl) (by simp only [List.getElem?_toArray, List.getElem?_cons_succ, List.getElem?_cons_zero]; rfl) (by rfl) (fun hcl16 K hK => ?_)
        go_simp
        refine hK _ _ (fun _ => HSB.out _ HB.out) ?_
        clear hK K
        try simp only [Act.put, List.setIfInBounds_toArray, List.set_cons_zero, List.set_cons_succ]
        refine anyZ_chain_at (by kernel_rfl) ?_
        simp only [List.drop_succ_cons, List.drop_zero]
        have z0 := HZ.out.c0
        have z1 := HZ.out.c1
        have z2 := HZ.out.c2
        have z3 := HZ.out.c3
        have z4 := HZ.out.c4
        have zf := HZ.out.fz
        have HP5 := Lib.hid (page_put ⟨gen, serial, i, 1, be4 A ++ p⟩ (.slice a4 (4 + L) c4) HZ.out)
        go_wp2_with fail
        go_meet
        case rel => exact ⟨n8, a4, c4, rfl, Lib.hid HP5.out.1, Lib.hid (Own8.bytes (own_only HO4.out HP5.out.2.1 (fun k hk e => own_ne HO4.out HZ.out (by decide) (by rw [← (show k = n8 from e)]; exact hk)))), Lib.hid (HB.out.trans (HP5.out.2.1.below w.heap.size HB.out.size (fun k hk e => by have e' : k = n8 := e; have := HGE.out; omega)))⟩
    case rest =>
      obtain ⟨n8, ad, c8, rfl, HP8, HY8, HB8⟩ := hcut
      have z0 := HP8.out.c0
      have z1 := HP8.out.c1
      have z2 := HP8.out.c2
      have z3 := HP8.out.c3
      have z4 := HP8.out.c4
      have hdl : (be4 A ++ p).length ≤ 491 := by rw [List.length_append, be4_len, ← HL.out]; omega
      go_wp2_with fail
      refine (pbytes_ok _ ⟨gen, serial, i, 1, be4 A ++ p⟩ _ (PgAt.mk' HY8.out) ⟨hgen, hser, (by show i < 4294967296; omega), (show (1 : Nat) < 256 by decide)⟩ (show (1 : Nat) ≠ 0 by decide) hdl).mono ?_
      rintro e w2 ⟨v2, rfl, ho2, hb2⟩
      have hlen2 : (pgBytes gen serial i A p).length = 512 := pgBytes_len (by rw [← HL.out]; exact hp)
      have ho2' : Own8 5 0 w2 v2 (pgBytes gen serial i A p) := ownsRow_base ho2 (Nat.zero_le _)
      obtain ⟨PB, hPB⟩ : ∃ x, x = pgBytes gen serial i A p := ⟨_, rfl⟩
      rw [← hPB] at hlen2 ho2'
      have HB2 := Lib.hid (btr HB8.out hb2)
      have HO2 := Lib.hid ho2'
      have HLEN := Lib.hid hlen2
      obtain ⟨a2, k2, c2, rfl⟩ := Own8.isSlice ho2'
      have HR2 := Lib.hid (HR.out.below HB2.out)
      have HS2 := Lib.hid (own_take (own_only HS.out (Only.of_below HB2.out fun _ => False) fun _ _ h => h) hso)
      have HD2 := Lib.hid (HD.out.below HB2.out)
      have HPB := Lib.hid hPB
      clear ho2 hb2 ho2' hPB hlen2 z0 z1 z2 z3 z4 HP8 HY8 HB8 HB HY HSB HAO HA hdl HV
      go_upto_region 6 with fail
      have fzr := HR2.out.fz
      have hsz2 : i ≤ cs := by omega
      refine region_anyZ (z := 13) (S := fun w' => (w'.cell? ⟨g, 7, none⟩ = some (.slice as0 N cs) ∧ w'.cell? ⟨g, 6, none⟩ = some (.int .u32 serial))) (by kernel_rfl) ?_
      refine anyZ_begin (fun hcl0 => ?_)
      refine anyZ_held (by exact ⟨HR2.out.c7, HR2.out.c6⟩) (fun hHeld => ?_)
      -- 0: Op.move (Operand.tmp 0)
      refine' anyZ_pure (i := 0) (v := _) rfl (by rfl) (by kernel_rfl) (by kernel_rfl) (by kernel_rfl) hcl0 (fun _ _ _ h => h) (Or.inl ⟨by rfl, fun w _ => ?hu1⟩) (fun _ => hHeld) (fun hcl1 => ?ru1)
      case hu1 => (simp only [List.getElem_toArray, List.getElem_cons_zero]; first | (go_simp; with_reducible rfl) | (go_simp; done) | rfl)
      simp only [List.getElem_toArray, List.getElem_cons_zero, Act.put, List.setIfInBounds_toArray, List.set_cons_zero, List.set_cons_succ]
      -- 1: Op.move (Operand.tmp 0)
      refine' anyZ_pure (i := 1) (v := _) rfl (by rfl) (by kernel_rfl) (by kernel_rfl) (by kernel_rfl) hcl1 (fun _ _ _ h => h) (Or.inl ⟨by rfl, fun w _ => ?hu2⟩) (fun _ => hHeld) (fun hcl2 => ?ru2)
      case hu2 => (simp only [List.getElem_toArray, List.getElem_cons_succ, List.getElem_cons_zero]; first | (go_simp; with_reducible rfl) | (go_simp; done) | rfl)
      simp only [List.getElem_toArray, List.getElem_cons_succ, List.getElem_cons_zero, Act.put, List.setIfInBounds_toArray, List.set_cons_zero, List.set_cons_succ]
      -- 2: Op.nilCheck (Operand.tmp 42)
      refine' anyZ_pure (i := 2) (v := _) rfl (by rfl) (by kernel_rfl) (by kernel_rfl) (by kernel_rfl) hcl2 (fun _ _ _ h => h) (Or.inl ⟨by rfl, fun w _ => ?hu3⟩) (fun _ => hHeld) (fun hcl3 => ?ru3)
      case hu3 => (simp only [List.getElem_toArray, List.getElem_cons_succ, List.getElem_cons_zero]; first | (go_simp; with_reducible rfl) | (go_simp; done) | rfl)
      simp only [List.getElem_toArray, List.getElem_cons_succ, List.getElem_cons_zero, Act.put, List.setIfInBounds_toArray, List.set_cons_zero, List.set_cons_succ]
      -- 3: Op.fieldAddr 99 (Operand.tmp 43) 7
      refine' anyZ_pure (i := 3) (v := _) rfl (by rfl) (by kernel_rfl) (by kernel_rfl) (by kernel_rfl) hcl3 (fun _ _ _ h => h) (Or.inl ⟨by rfl, fun w _ => ?hu4⟩) (fun _ => hHeld) (fun hcl4 => ?ru4)
      case hu4 => (simp only [List.getElem_toArray, List.getElem_cons_succ, List.getElem_cons_zero]; first | (go_simp; with_reducible rfl) | (go_simp; done) | rfl)
      simp only [List.getElem_toArray, List.getElem_cons_succ, List.getElem_cons_zero, Act.put, List.setIfInBounds_toArray, List.set_cons_zero, List.set_cons_succ]
      -- 4: Op.load 97 (Operand.tmp 44)
      refine' anyZ_take (i := 4) (v := _) rfl (by rfl) (by kernel_rfl) (by kernel_rfl) (by kernel_rfl) hcl4 8 (by kernel_rfl) (by kernel_rfl) (fun _ _ _ h => h) (Or.inl ⟨by rfl, fun w hSw => ?hu5⟩) hHeld (fun hcl5 => ?ru5)
      case hu5 => (simp only [List.getElem_toArray, List.getElem_cons_succ, List.getElem_cons_zero]; obtain ⟨hS1, hS2⟩ := hSw; first | (go_simp; with_reducible rfl) | (go_simp; done) | rfl)
      simp only [List.getElem_toArray, List.getElem_cons_succ, List.getElem_cons_zero, Act.put, List.setIfInBounds_toArray, List.set_cons_zero, List.set_cons_succ]
      -- 5: Op.move (Operand.tmp 1)
      refine' anyZ_pure (i := 5) (v := _) rfl (by rfl) (by kernel_rfl) (by kernel_rfl) (by kernel_rfl) hcl5 (fun _ _ _ h => h) (Or.inl ⟨by rfl, fun w _ => ?hu6⟩) (fun _ => hHeld) (fun hcl6 => ?ru6)
      case hu6 => (simp only [List.getElem_toArray, List.getElem_cons_succ, List.getElem_cons_zero]; first | (go_simp; with_reducible rfl) | (go_simp; done) | rfl)
      simp only [List.getElem_toArray, List.getElem_cons_succ, List.getElem_cons_zero, Act.put, List.setIfInBounds_toArray, List.set_cons_zero, List.set_cons_succ]
      -- 6: Op.slice 97 (Operand.tmp 45) none (some (Operand.tmp 46)) no
      refine' anyZ_pure (i := 6) (v := _) rfl (by rfl) (by kernel_rfl) (by kernel_rfl) (by kernel_rfl) hcl6 (fun _ _ _ h => h) (Or.inl ⟨by rfl, fun w _ => ?hu7⟩) (fun _ => hHeld) (fun hcl7 => ?ru7)
      case hu7 => (simp only [List.getElem_toArray, List.getElem_cons_succ, List.getElem_cons_zero]; first | (go_simp; with_reducible rfl) | (go_simp; done) | rfl)
      simp only [List.getElem_toArray, List.getElem_cons_succ, List.getElem_cons_zero, Act.put, List.setIfInBounds_toArray, List.set_cons_zero, List.set_cons_succ]
      -- 7: Op.move (Operand.tmp 0)
      refine' anyZ_pure (i := 7) (v := _) rfl (by rfl) (by kernel_rfl) (by kernel_rfl) (by kernel_rfl) hcl7 (fun _ _ _ h => h) (Or.inl ⟨by rfl, fun w _ => ?hu8⟩) (fun _ => hHeld) (fun hcl8 => ?ru8)
      case hu8 => (simp only [List.getElem_toArray, List.getElem_cons_succ, List.getElem_cons_zero]; first | (go_simp; with_reducible rfl) | (go_simp; done) | rfl)
      simp only [List.getElem_toArray, List.getElem_cons_succ, List.getElem_cons_zero, Act.put, List.setIfInBounds_toArray, List.set_cons_zero, List.set_cons_succ]
      -- 8: Op.nilCheck (Operand.tmp 48)
      refine' anyZ_pure (i := 8) (v := _) rfl (by rfl) (by kernel_rfl) (by kernel_rfl) (by kernel_rfl) hcl8 (fun _ _ _ h => h) (Or.inl ⟨by rfl, fun w _ => ?hu9⟩) (fun _ => hHeld) (fun hcl9 => ?ru9)
      case hu9 => (simp only [List.getElem_toArray, List.getElem_cons_succ, List.getElem_cons_zero]; first | (go_simp; with_reducible rfl) | (go_simp; done) | rfl)
      simp only [List.getElem_toArray, List.getElem_cons_succ, List.getElem_cons_zero, Act.put, List.setIfInBounds_toArray, List.set_cons_zero, List.set_cons_succ]
      -- 9: Op.fieldAddr 99 (Operand.tmp 49) 6
      refine' anyZ_pure (i := 9) (v := _) rfl (by rfl) (by kernel_rfl) (by kernel_rfl) (by kernel_rfl) hcl9 (fun _ _ _ h => h) (Or.inl ⟨by rfl, fun w _ => ?hu10⟩) (fun _ => hHeld) (fun hcl10 => ?ru10)
      case hu10 => (simp only [List.getElem_toArray, List.getElem_cons_succ, List.getElem_cons_zero]; first | (go_simp; with_reducible rfl) | (go_simp; done) | rfl)
      simp only [List.getElem_toArray, List.getElem_cons_succ, List.getElem_cons_zero, Act.put, List.setIfInBounds_toArray, List.set_cons_zero, List.set_cons_succ]
      -- 10: Op.load 34 (Operand.tmp 50)
      refine' anyZ_take (i := 10) (v := _) rfl (by rfl) (by kernel_rfl) (by kernel_rfl) (by kernel_rfl) hcl10 8 (by kernel_rfl) (by kernel_rfl) (fun _ _ _ h => h) (Or.inl ⟨by rfl, fun w hSw => ?hu11⟩) hHeld (fun hcl11 => ?ru11)
      case hu11 => (simp only [List.getElem_toArray, List.getElem_cons_succ, List.getElem_cons_zero]; obtain ⟨hS1, hS2⟩ := hSw; first | (go_simp; with_reducible rfl) | (go_simp; done) | rfl)
      simp only [List.getElem_toArray, List.getElem_cons_succ, List.getElem_cons_zero, Act.put, List.setIfInBounds_toArray, List.set_cons_zero, List.set_cons_succ]
      -- 11: Op.buildSlice 97 1 #[(0, Operand.tmp 51)]
      refine anyZ_one (i := 11) hcl11 (by kernel_rfl) (by simp only [List.getElem?_toArray, List.getElem?_cons_succ, List.getElem?_cons_zero]; rfl) (by rfl) (fun hcl12 K hK => ?_)
      go_simp
      have hb9 := bdr (bal (bre w2) (.cells #[.int .u32 serial] 34))
      have HNEW : Hid (∀ (j : Nat) (u : Value), [Value.int .u32 serial][j]? = some u → ((w2.alloc (.cells #[.int .u32 serial] 34)).drew).cell? ((⟨w2.heap.size, 0, none⟩ : Addr).add j) = some u) := Lib.hid (new1 w2 _ _)
      generalize (w2.alloc (.cells #[.int .u32 serial] 34)).drew = wb at *
      obtain ⟨n9, hn9⟩ : ∃ n, n = w2.heap.size := ⟨_, rfl⟩
      rw [← hn9] at HNEW
      try rw [← hn9]
      have HR9 := Lib.hid (HR2.out.below hb9)
      have HS9 := Lib.hid (own_only HS2.out (Only.of_below hb9 fun _ => False) fun _ _ h => h)
      have HO9 := Lib.hid (Own8.kept HO2.out (Nat.le_refl _) hb9)
      have HD9 := Lib.hid (HD2.out.below hb9)
      have HB9 := Lib.hid (btr HB2.out hb9)
      clear hb9 hn9
      refine hK _ _ (fun _ => ?_) ?_
      · exact ⟨HR9.out.c7, HR9.out.c6⟩
      clear hK K hHeld
      have hHeld := (⟨HR9.out.c7, HR9.out.c6⟩ : _ ∧ _)
      try simp only [Act.put, List.setIfInBounds_toArray, List.set_cons_zero, List.set_cons_succ]
      -- 12: Op.call { callee := Callee.builtin Builtin.append, args := #
      refine anyZ_one (i := 12) hcl12 (by kernel_rfl) (by simp only [List.getElem?_toArray, List.getElem?_cons_succ, List.getElem?_cons_zero]; rfl) (by rfl) (fun hcl13 K hK => ?_)
      refine wp_app' _ _ 97 34 1 4 rowU rfl 0 _ i ((so.map U32).take i) rfl HS9.out ⟨n9, 0, none⟩ 1 1 [.int .u32 serial] rfl rfl HNEW.out (by simp [Value.oneCell']) (by unfold maxLen; omega) (by omega) (Nat.zero_le _) ?_
      intro vs' wc ho hg hst
      have HON := Lib.hid (Only.of_grown hg)
      have HS10 := Lib.hid ho
      have HR10 := Lib.hid (HR9.out.only HON.out (own_ne HS9.out HR9.out (by decide)))
      have HO10 : Hid (Own8 5 0 wc (.slice a2 k2 c2) PB) := Lib.hid (own_only HO9.out HON.out (own_apart2 HO9.out HS9.out (by decide)))
      have HD10 := Lib.hid (HD9.out.only HON.out fun k hF hk => by obtain ⟨cur, hc⟩ := own_block HS9.out hk; exact HD9.out.apartT hc (by decide) (by decide) (by decide) hF)
      have HST := Lib.hid hst
      obtain ⟨a9, c9, rfl, -, -, -, -, -⟩ := ownsRow_lies ho
      clear ho hg hst
      refine hK _ _ (fun _ => ?_) ?_
      · exact ⟨HR10.out.c7, HR10.out.c6⟩
      clear hK K hHeld
      try simp only [Act.put, List.setIfInBounds_toArray, List.set_cons_zero, List.set_cons_succ]
      refine anyZ_chain_at (by kernel_rfl) ?_
      simp only [List.drop_succ_cons, List.drop_zero]
      have x7 := HR10.out.c7
      have fz := HR10.out.fz
      go_upto_region 7 with fail
      have honF : Only wc (wc.setCell ⟨g, 7, none⟩ (.slice a9 (i + 1) c9)) (fun k => k = g) := Only.setCell wc ⟨g, 7, none⟩ _
      have HR11 := Lib.hid (HR10.out.put7 (.slice a9 (i + 1) c9))
      have HS11 := Lib.hid (own_only HS10.out honF fun k hk e => own_ne HS10.out HR10.out (by decide) (by rw [← (show k = g from e)]; exact hk))
      have HO11 : Hid (Bytes (wc.setCell ⟨g, 7, none⟩ (.slice a9 (i + 1) c9)) (.slice a2 k2 c2) PB) := Lib.hid (Own8.bytes (own_only HO10.out honF fun k hk e => own_ne HO10.out HR10.out (by decide) (by rw [← (show k = g from e)]; exact hk)))
      have HD11 := Lib.hid (HD10.out.only honF fun k hF e => HD10.out.apartT HR10.out (by decide) (by decide) (by decide) (by rw [← (show k = g from e)]; exact hF))
      have HON11 : Hid (Only w (wc.setCell ⟨g, 7, none⟩ (.slice a9 (i + 1) c9)) (fun k => k = g ∨ (Value.slice as0 N cs).ownBlock = some k)) := Lib.hid (((Only.of_below HB9.out fun k => k = g ∨ (Value.slice as0 N cs).ownBlock = some k).trans HON.out fun k _ h => .inr (by rw [← h]; cases as0 <;> rfl)).trans honF fun k _ e => .inl e)
      have HST' : Hid ((Value.slice a9 (i + 1) c9).ownBlock = (Value.slice as0 N cs).ownBlock ∨ ∀ k, (Value.slice a9 (i + 1) c9).ownBlock = some k → w.heap.size ≤ k) := Lib.hid (by
        rcases HST.out with h | h
        · exact .inl (by rw [h]; cases as0 <;> rfl)
        · exact .inr fun k hk => Nat.le_trans HB9.out.size (h k hk))
      generalize wc.setCell ⟨g, 7, none⟩ (.slice a9 (i + 1) c9) = wd at *
      obtain ⟨m, hm⟩ : ∃ m, m = fr + i := ⟨_, rfl⟩
      have hadd : IntKind.i64.wrap (m : Int) = (m : Int) := by rw [IntKind.wrap_i64]; omega
      have hadd2 : (fr : Int) + (i : Int) = (m : Int) := by omega
      have HM := Lib.hid hm
      clear hm honF HR10 HS10 HO10 HD10 HON HST HB9 HR9 HS9 HO9 HD9 HNEW x7 fz fzr HR2 HS2 HO2 HD2 HB2
      refine region_anyZ (z := 11) (S := fun w' => (w'.cell? ⟨g, 0, none⟩ = some (.pointer (some ⟨gd, 0, none⟩)) ∧ w'.cell? ⟨g, 2, none⟩ = some (.int .i64 fr))) (by kernel_rfl) ?_
      refine anyZ_begin (fun hcl0 => ?_)
      refine anyZ_held (by exact ⟨HR11.out.c0, HR11.out.c2⟩) (fun hHeld => ?_)
      -- 0: Op.move (Operand.tmp 0)
      refine' anyZ_pure (i := 0) (v := _) rfl (by rfl) (by kernel_rfl) (by kernel_rfl) (by kernel_rfl) hcl0 (fun _ _ _ h => h) (Or.inl ⟨by rfl, fun w _ => ?hq1⟩) (fun _ => hHeld) (fun hcl1 => ?rq1)
      case hq1 => (simp only [List.getElem_toArray, List.getElem_cons_zero]; first | (go_simp; with_reducible rfl) | (go_simp; done) | rfl)
      simp only [List.getElem_toArray, List.getElem_cons_zero, Act.put, List.setIfInBounds_toArray, List.set_cons_zero, List.set_cons_succ]
      -- 1: Op.nilCheck (Operand.tmp 56)
      refine' anyZ_pure (i := 1) (v := _) rfl (by rfl) (by kernel_rfl) (by kernel_rfl) (by kernel_rfl) hcl1 (fun _ _ _ h => h) (Or.inl ⟨by rfl, fun w _ => ?hq2⟩) (fun _ => hHeld) (fun hcl2 => ?rq2)
      case hq2 => (simp only [List.getElem_toArray, List.getElem_cons_succ, List.getElem_cons_zero]; first | (go_simp; with_reducible rfl) | (go_simp; done) | rfl)
      simp only [List.getElem_toArray, List.getElem_cons_succ, List.getElem_cons_zero, Act.put, List.setIfInBounds_toArray, List.set_cons_zero, List.set_cons_succ]
      -- 2: Op.fieldAddr 99 (Operand.tmp 57) 0
      refine' anyZ_pure (i := 2) (v := _) rfl (by rfl) (by kernel_rfl) (by kernel_rfl) (by kernel_rfl) hcl2 (fun _ _ _ h => h) (Or.inl ⟨by rfl, fun w _ => ?hq3⟩) (fun _ => hHeld) (fun hcl3 => ?rq3)
      case hq3 => (simp only [List.getElem_toArray, List.getElem_cons_succ, List.getElem_cons_zero]; first | (go_simp; with_reducible rfl) | (go_simp; done) | rfl)
      simp only [List.getElem_toArray, List.getElem_cons_succ, List.getElem_cons_zero, Act.put, List.setIfInBounds_toArray, List.set_cons_zero, List.set_cons_succ]
      -- 3: Op.load 37 (Operand.tmp 58)
      refine' anyZ_take (i := 3) (v := _) rfl (by rfl) (by kernel_rfl) (by kernel_rfl) (by kernel_rfl) hcl3 8 (by kernel_rfl) (by kernel_rfl) (fun _ _ _ h => h) (Or.inl ⟨by rfl, fun w hSw => ?hq4⟩) hHeld (fun hcl4 => ?rq4)
      case hq4 => (simp only [List.getElem_toArray, List.getElem_cons_succ, List.getElem_cons_zero]; obtain ⟨hS1, hS2⟩ := hSw; first | (go_simp; with_reducible rfl) | (go_simp; done) | rfl)
      simp only [List.getElem_toArray, List.getElem_cons_succ, List.getElem_cons_zero, Act.put, List.setIfInBounds_toArray, List.set_cons_zero, List.set_cons_succ]
      -- 4: Op.move (Operand.tmp 0)
      refine' anyZ_pure (i := 4) (v := _) rfl (by rfl) (by kernel_rfl) (by kernel_rfl) (by kernel_rfl) hcl4 (fun _ _ _ h => h) (Or.inl ⟨by rfl, fun w _ => ?hq5⟩) (fun _ => hHeld) (fun hcl5 => ?rq5)
      case hq5 => (simp only [List.getElem_toArray, List.getElem_cons_succ, List.getElem_cons_zero]; first | (go_simp; with_reducible rfl) | (go_simp; done) | rfl)
      simp only [List.getElem_toArray, List.getElem_cons_succ, List.getElem_cons_zero, Act.put, List.setIfInBounds_toArray, List.set_cons_zero, List.set_cons_succ]
      -- 5: Op.nilCheck (Operand.tmp 60)
      refine' anyZ_pure (i := 5) (v := _) rfl (by rfl) (by kernel_rfl) (by kernel_rfl) (by kernel_rfl) hcl5 (fun _ _ _ h => h) (Or.inl ⟨by rfl, fun w _ => ?hq6⟩) (fun _ => hHeld) (fun hcl6 => ?rq6)
      case hq6 => (simp only [List.getElem_toArray, List.getElem_cons_succ, List.getElem_cons_zero]; first | (go_simp; with_reducible rfl) | (go_simp; done) | rfl)
      simp only [List.getElem_toArray, List.getElem_cons_succ, List.getElem_cons_zero, Act.put, List.setIfInBounds_toArray, List.set_cons_zero, List.set_cons_succ]
      -- 6: Op.fieldAddr 99 (Operand.tmp 61) 2
      refine' anyZ_pure (i := 6) (v := _) rfl (by rfl) (by kernel_rfl) (by kernel_rfl) (by kernel_rfl) hcl6 (fun _ _ _ h => h) (Or.inl ⟨by rfl, fun w _ => ?hq7⟩) (fun _ => hHeld) (fun hcl7 => ?rq7)
      case hq7 => (simp only [List.getElem_toArray, List.getElem_cons_succ, List.getElem_cons_zero]; first | (go_simp; with_reducible rfl) | (go_simp; done) | rfl)
      simp only [List.getElem_toArray, List.getElem_cons_succ, List.getElem_cons_zero, Act.put, List.setIfInBounds_toArray, List.set_cons_zero, List.set_cons_succ]
      -- 7: Op.load 3 (Operand.tmp 62)
      refine' anyZ_take (i := 7) (v := _) rfl (by rfl) (by kernel_rfl) (by kernel_rfl) (by kernel_rfl) hcl7 8 (by kernel_rfl) (by kernel_rfl) (fun _ _ _ h => h) (Or.inl ⟨by rfl, fun w hSw => ?hq8⟩) hHeld (fun hcl8 => ?rq8)
      case hq8 => (simp only [List.getElem_toArray, List.getElem_cons_succ, List.getElem_cons_zero]; obtain ⟨hS1, hS2⟩ := hSw; first | (go_simp; with_reducible rfl) | (go_simp; done) | rfl)
      simp only [List.getElem_toArray, List.getElem_cons_succ, List.getElem_cons_zero, Act.put, List.setIfInBounds_toArray, List.set_cons_zero, List.set_cons_succ]
      -- 8: Op.move (Operand.tmp 1)
      refine' anyZ_pure (i := 8) (v := _) rfl (by rfl) (by kernel_rfl) (by kernel_rfl) (by kernel_rfl) hcl8 (fun _ _ _ h => h) (Or.inl ⟨by rfl, fun w _ => ?hq9⟩) (fun _ => hHeld) (fun hcl9 => ?rq9)
      case hq9 => (simp only [List.getElem_toArray, List.getElem_cons_succ, List.getElem_cons_zero]; first | (go_simp; with_reducible rfl) | (go_simp; done) | rfl)
      simp only [List.getElem_toArray, List.getElem_cons_succ, List.getElem_cons_zero, Act.put, List.setIfInBounds_toArray, List.set_cons_zero, List.set_cons_succ]
      -- 9: Op.binOp BinOp.add 3 (Operand.tmp 63) (Operand.tmp 64) 3
      refine' anyZ_pure (i := 9) (v := _) rfl (by rfl) (by kernel_rfl) (by kernel_rfl) (by kernel_rfl) hcl9 (fun _ _ _ h => h) (Or.inl ⟨by rfl, fun w _ => ?hq10⟩) (fun _ => hHeld) (fun hcl10 => ?rq10)
      case hq10 => (simp only [List.getElem_toArray, List.getElem_cons_succ, List.getElem_cons_zero]; first | (go_simp; with_reducible rfl) | (go_simp; done) | rfl)
      simp only [List.getElem_toArray, List.getElem_cons_succ, List.getElem_cons_zero, Act.put, List.setIfInBounds_toArray, List.set_cons_zero, List.set_cons_succ]
      -- 10: Op.move (Operand.tmp 9)
      refine' anyZ_pure (i := 10) (v := _) rfl (by rfl) (by kernel_rfl) (by kernel_rfl) (by kernel_rfl) hcl10 (fun _ _ _ h => h) (Or.inl ⟨by rfl, fun w _ => ?hq11⟩) (fun _ => hHeld) (fun hcl11 => ?rq11)
      case hq11 => (simp only [List.getElem_toArray, List.getElem_cons_succ, List.getElem_cons_zero]; first | (go_simp; with_reducible rfl) | (go_simp; done) | rfl)
      simp only [List.getElem_toArray, List.getElem_cons_succ, List.getElem_cons_zero, Act.put, List.setIfInBounds_toArray, List.set_cons_zero, List.set_cons_succ]
      clear hHeld
      refine anyZ_chain_at (by kernel_rfl) ?_
      simp only [List.drop_succ_cons, List.drop_zero]
      go_wp2_with fail
      refine (write_ok gd d F m _ PB wd.drew (HD11.out.below (bdr (bre wd))) (by rw [HM.out]; exact HI.out) HFR.out.may (HO11.out.below (bdr (bre wd))) HLEN.out (by rw [HFR.out.2]; omega) (by rw [HFR.out.2]; omega) HC.out HW.out).mono ?_
      rintro e we ⟨F', rfl, hd3, hm3⟩
      have hm4 : Moved wd we F F' := (Moved.of_below F (bdr (bre wd))).trans hm3
      rw [HPB.out, HM.out] at hd3
      have HD12 := Lib.hid hd3
      have HM12 := Lib.hid hm4
      clear hd3 hm3 hm4
      go_wp2_with fail
      go_ret
      refine ⟨.slice a9 (i + 1) c9, F', rfl, HD12.out, HR11.out.only HM12.out.only fun hF => HD11.out.apartT HR11.out (by decide) (by decide) (by decide) hF, ?_, HST'.out, wd, HON11.out, HD11.out, HM12.out⟩
      have hs := own_only HS11.out HM12.out.only fun k hk hF => by
        obtain ⟨cur, hc⟩ := own_block HS11.out hk
        exact HD11.out.apartT hc (by decide) (by decide) (by decide) hF
      rw [← List.map_take] at hs
      rw [List.map_append]
      exact hs
end Go.Proofs.YtacfkhnajdneeaaDoor
/- Plain and laws: the pages that a record turns; what turns in memory while it is appended. -/
namespace Go.Proofs.YtacfkhnajdneeaaDoor
open Go.RowKit

/-- an append to bytes that end where their room ends -/
theorem wp_appFull {P : Program} {w : World} {o : Oper} {a : Act} {K : Act → World → Prop} {Q : Exit → Act → World → Prop} (s x : Operand)
    (t e : Nat) (T : RowTy P t e 1 1) (ho : o.op = .call { callee := .builtin .append, args := #[s, x], argTypes := #[t, t] })
    (b : Option Addr) (n : Nat) (l : List UInt8) (hs : a.eval s = .slice b n n) (hv : Bytes w (.slice b n n) l)
    (u : Value) (m : List UInt8) (hx : a.eval x = u) (hm : Bytes w u m) (hne : 0 < m.length) (hbytes : l.length + m.length ≤ 140737488355328)
    (h : ∀ v' w', Own8 e w.heap.size w' v' (l ++ m) → Below w.heap.size w w' → K (a.put o.dst v') w') : o.wp P a w K Q := by
  obtain ⟨ad, c, rfl, hm0, hmc, hn, hl⟩ := hm.lies
  obtain ⟨ab, cb, hb, hb0, hbc, hbn, hbl⟩ := hv.lies
  cases hb
  obtain ⟨i, z, hi, hz, hsz, hby, hzs⟩ := T.ex
  cases ad with
  | none =>
    have := hn rfl
    omega
  | some ad =>
    have hnews : ∀ j u, (m.map B8)[j]? = some u → w.cell? (ad.add j) = some u := by
      intro j u hu
      rcases hl with h0 | ⟨g, o', ha, hr⟩
      · rw [h0] at hu; simp at hu
      · cases ha
        rw [Addr.add_mid]
        exact hr j u hu
    have fin : ∀ v' w', (Builtin.append_ #[t, t] o.type #[.slice b l.length l.length, .slice (some ad) m.length c]).run P w = .ok v' w' → Own8 e w.heap.size w' v' (l ++ m) → w.grownBy w' none → o.wp P a w K Q := by
      intro v' w' hr h2 h3
      unfold Oper.wp execOp
      simp only [ho, resolve, invoke, builtin, Sem.run_bind, Sem.run_pure, Result.andThen_ok, List.map_toArray, List.map_cons, List.map_nil, hs, hx, hr]
      exact h v' w' h2 ⟨h3.os, h3.tape, h3.output, h3.size, fun k hk => h3.block k hk (by simp)⟩
    cases b with
    | none =>
      have hl0 := hbn rfl
      have hln : l = [] := List.eq_nil_of_length_eq_zero hl0
      subst hln
      obtain ⟨v', w', hr, h2, h3, h4⟩ := run_append_own (P := P) w w.heap.size t o.type e i z 1 1 T.ht hi hz hsz hby hzs T.pos (.slice none 0 0) 0 [] (World.ownsRow_nil _ _ _ _) ad m.length c (m.map B8) (by simp) hnews (B8_one m) (by unfold maxLen; omega) (by omega) (Nat.le_refl _)
      refine fin v' w' hr ?_ ⟨h3.os, h3.tape, h3.output, h3.size, fun k hk _ => h3.block k hk (by simp [Value.ownBlock])⟩
      unfold Own8
      simpa using h2
    | some bd =>
      have holds : ∀ j u, (l.map B8)[j]? = some u → w.cell? (bd.add j) = some u := by
        intro j u hu
        rcases hbl with h0 | ⟨g, o', ha, hr⟩
        · rw [h0] at hu; simp at hu
        · cases ha
          rw [Addr.add_mid]
          exact hr j u hu
      obtain ⟨v', w', hr, h2, h3⟩ := run_append_arg_grows (P := P) (w := w) t o.type e i z 1 1 T.ht hi hz hsz hby hzs T.pos bd l.length l.length (l.map B8) (by simp) holds ad m.length c (m.map B8) (by simp) hnews (by omega) (by unfold maxLen; omega) (by omega)
      refine fin v' w' hr ?_ h3
      unfold Own8
      simpa using h2

/-- 'own = append(own, u)': one record more -/
theorem wp_appRec {w : World} {o : Oper} {a : Act} {K : Act → World → Prop} {Q : Exit → Act → World → Prop} (s x : Operand)
    (ho : o.op = .call { callee := .builtin .append, args := #[s, x], argTypes := #[22, 22] })
    (base : Nat) (v : Value) (ls : List (List UInt8)) (hs : a.eval s = v) (hown : RecsAt base w v ls)
    (u : Value) (l : List UInt8) (hu : Rec8 base w u l) (ad : Addr) (hx : a.eval x = .slice (some ad) 1 1) (hnew : ∀ (j : Nat) (x : Value), [u][j]? = some x → w.cell? (ad.add j) = some x) (hlen : ls.length ≤ 1000000000) (hbase : base ≤ w.heap.size)
    (h : ∀ v' w', RecsAt base w' v' (ls ++ [l]) → Only w w' (fun k => v.ownBlock = some k) → Stays w v v' → K (a.put o.dst v') w') : o.wp Tryd.prog a w K Q := by
  obtain ⟨vs, h1, h2, h3⟩ := hown
  refine wp_app' s x 22 23 1 24 rowR ho base v vs.length vs hs h2 ad 1 1 [u] hx rfl hnew ?_ (by unfold maxLen; omega) (by omega) hbase ?_
  · intro u' hu'
    simp at hu'
    subst hu'
    exact hu.oneCell
  · intro v' w' g1 g2 g3
    refine h v' w' ⟨vs ++ [u], by simp [h1], by simpa using g1, ?_⟩ (Only.of_grown g2) g3
    intro j u' l' hj hl'
    have hkeep : ∀ {u'' : Value} {l'' : List UInt8}, Rec8 base w u'' l'' → Rec8 base w' u'' l'' := fun hh =>
      hh.only (Only.of_grown g2) fun k hk cs fr e => own_ne h2 e (by decide) hk
    by_cases hjl : j < vs.length
    · rw [List.getElem?_append_left hjl] at hj
      rw [List.getElem?_append_left (by omega)] at hl'
      exact hkeep (h3 j u' l' hj hl')
    · rw [List.getElem?_append_right (by omega)] at hj
      rw [List.getElem?_append_right (by omega)] at hl'
      have h0 : j - vs.length = 0 := by have := (List.getElem?_eq_some_iff.1 hj).1; simp at this; omega
      have h0' : j - ls.length = 0 := by omega
      rw [h0] at hj
      rw [h0'] at hl'
      simp at hj hl'
      subst hj hl'
      exact hkeep hu

/-- so many pages later -/
def Rl.soAt (r : Rl) (m t : Nat) : List Nat := if t = 0 then r.so else r.so.take m ++ List.replicate t r.serial
def Rl.pageAt (r : Rl) (st : List UInt8) (m t : Nat) : Nat × List UInt8 := (r.fr + (m + t), pgBytes r.gen r.serial (m + t) (if t = 0 then aheadOf r.so m else r.serial) (chunk st (m + t)))
def Rl.pages (r : Rl) (st : List UInt8) (m t : Nat) : List (Nat × List UInt8) := (List.range t).map (r.pageAt st m)
/-- how many pages -/
def pagesN (a b : Nat) : Nat := (b + 486) / 487 - a / 487
/-- a record more -/
def Rl.more (r : Rl) (p : List UInt8) : Rl := ⟨r.gen, r.fr, r.n, r.serial, r.ls ++ [p], r.soAt ((layAll r.ls).length / 487) (pagesN (layAll r.ls).length (layAll (r.ls ++ [p])).length)⟩
def Dk.writes (d : Dk) (l : List (Nat × List UInt8)) : Dk := l.foldl (fun d x => d.wrote x.1 x.2) d

theorem Rl.soAt_len {r : Rl} {m : Nat} (hm : m ≤ r.so.length) (t : Nat) : m + t ≤ (r.soAt m t).length := by
  unfold Rl.soAt
  split
  · omega
  · rw [List.length_append, List.length_take, List.length_replicate]; omega
theorem Rl.soAt_next {r : Rl} {m : Nat} (hm : m ≤ r.so.length) (t : Nat) : (r.soAt m t).take (m + t) ++ [r.serial] = r.soAt m (t + 1) := by
  unfold Rl.soAt
  rw [if_neg (by omega : ¬ t + 1 = 0)]
  by_cases h : t = 0
  · subst h; simp
  · rw [if_neg h, List.take_of_length_le (by rw [List.length_append, List.length_take, List.length_replicate]; omega), List.replicate_succ', List.append_assoc]
theorem Rl.soAt_lt {r : Rl} (h : ∀ s ∈ r.so, s < 4294967296) (hs : r.serial < 4294967296) (m t : Nat) : ∀ s ∈ r.soAt m t, s < 4294967296 := by
  intro s hx
  unfold Rl.soAt at hx
  split at hx
  · exact h s hx
  · rcases List.mem_append.1 hx with hx | hx
    · exact h s (List.mem_of_mem_take hx)
    · rw [List.eq_of_mem_replicate hx]; exact hs
theorem Rl.ahead_at {r : Rl} {m : Nat} (hm : m ≤ r.so.length) (t : Nat) : aheadOf (r.soAt m t) (m + t) = if t = 0 then aheadOf r.so m else r.serial := by
  unfold Rl.soAt
  by_cases h : t = 0
  · subst h; rw [if_pos rfl, if_pos rfl]; rfl
  · rw [if_neg h, if_neg h]
    unfold aheadOf
    rw [if_neg (by omega), List.getD_eq_getElem?_getD, List.getElem?_append_right (by rw [List.length_take]; omega), List.getElem?_replicate, if_pos (by rw [List.length_take]; omega)]
    rfl
theorem Rl.pages_next (r : Rl) (st : List UInt8) (m t : Nat) : r.pages st m (t + 1) = r.pages st m t ++ [r.pageAt st m t] := by
  unfold Rl.pages
  rw [List.range_succ, List.map_append]
  rfl
theorem Dk.writes_snoc (d : Dk) (l : List (Nat × List UInt8)) (x : Nat × List UInt8) : d.writes (l ++ [x]) = (d.writes l).wrote x.1 x.2 := by
  unfold Dk.writes
  rw [List.foldl_append]
  rfl
theorem Dk.writes_are (l : List (Nat × List UInt8)) : ∀ d : Dk, d.Free → (d.writes l).safe = d.safe ∧ (d.writes l).wait = d.wait ++ l ∧ (d.writes l).count = d.count + l.length ∧ (d.writes l).Free := by
  induction l with
  | nil => intro d h; exact ⟨rfl, by simp [Dk.writes], rfl, h⟩
  | cons x l ih =>
    intro d h
    obtain ⟨h1, h2, h3, h4⟩ := ih (d.wrote x.1 x.2) (h.wrote x.1 x.2)
    refine ⟨h1, ?_, ?_, h4⟩
    · show ((d.wrote x.1 x.2).writes l).wait = _
      rw [h2]
      simp [Dk.wrote]
    · show ((d.wrote x.1 x.2).writes l).count = _
      rw [h3]
      simp [Dk.wrote]
      omega
theorem Rl.pages_len (r : Rl) (st : List UInt8) (m t : Nat) : (r.pages st m t).length = t := by unfold Rl.pages; simp

/-- while a record is appended -/
structure ApSt (w0 w : World) (g gd : Nat) (r : Rl) (F0 : Nat → Prop) (vl vp vs0 va v : Value) (st p : List UInt8) (d : Dk) (F : Nat → Prop) (so : List Nat) (vs : Value) : Prop where
  dk : DiskAt w gd d F
  row : RlRow w g gd r.gen r.fr r.n r.serial vl vp vs
  ls : RecsAt 0 w vl r.ls
  s : w.ownsRow 0 34 1 vs so.length (so.map U32)
  all : Own8 5 0 w va st
  p : Rec8 0 w v p
  only : Only w0 w (fun k => F0 k ∨ k = g ∨ vs0.ownBlock = some k)
  f1 : ∀ k, F k → F0 k ∨ w0.heap.size ≤ k
  f2 : ∀ k, vs.ownBlock = some k → vs0.ownBlock = some k ∨ w0.heap.size ≤ k

theorem ApSt.below {w0 w w' : World} {g gd : Nat} {r : Rl} {F0 F : Nat → Prop} {vl vp vs0 va v vs : Value} {st p : List UInt8} {d : Dk} {so : List Nat} (h : ApSt w0 w g gd r F0 vl vp vs0 va v st p d F so vs) (hb : Below w.heap.size w w') : ApSt w0 w' g gd r F0 vl vp vs0 va v st p d F so vs :=
  ⟨h.dk.below hb, h.row.below hb, h.ls.below hb, own_only h.s (Only.of_below hb fun _ => False) (fun _ _ h => h), Own8.kept h.all (Nat.le_refl _) hb, h.p.below hb, h.only.trans (Only.of_below hb fun _ => False) (fun _ _ h => h.elim), h.f1, h.f2⟩

theorem ApSt.step {w0 w w1 w' : World} {g gd : Nat} {r : Rl} {F0 F F' : Nat → Prop} {vl vp vs0 va v vs vs' : Value} {st p : List UInt8} {d d' : Dk} {so so' : List Nat} (h : ApSt w0 w g gd r F0 vl vp vs0 va v st p d F so vs)
    (h1 : Only w w1 (fun k => k = g ∨ vs.ownBlock = some k)) (hd1 : DiskAt w1 gd d F) (hm : Moved w1 w' F F') (hd : DiskAt w' gd d' F') (hr : RlRow w' g gd r.gen r.fr r.n r.serial vl vp vs') (hs : w'.ownsRow 0 34 1 vs' so'.length (so'.map U32))
    (hst : vs'.ownBlock = vs.ownBlock ∨ ∀ k, vs'.ownBlock = some k → w.heap.size ≤ k) : ApSt w0 w' g gd r F0 vl vp vs0 va v st p d' F' so' vs' := by
  obtain ⟨us, q1, q2, q3⟩ := id h.ls
  have n8 : ∀ k, (k = g ∨ vs.ownBlock = some k) → ∀ cs fr, w.heap[k]? ≠ some (.cells cs 5 fr) := fun k hk cs fr e => by
    rcases hk with rfl | hk
    · rw [h.row] at e; cases e
    · exact own_ne h.s e (by decide) hk
  have hl1 : RecsAt 0 w1 vl r.ls := h.ls.only h1 fun k hk => ⟨n8 k hk, fun e => by
    rcases hk with rfl | hk
    · exact own_ne q2 h.row (by decide) e
    · exact own_apart2 q2 h.s (by decide) k e hk⟩
  have ha1 : Own8 5 0 w1 va st := own_only h.all h1 fun k e hk => by
    rcases hk with rfl | hk
    · exact own_ne h.all h.row (by decide) e
    · exact own_apart2 h.all h.s (by decide) k e hk
  have hp1 := h.p.only h1 n8
  have g0 : w0.heap.size ≤ w.heap.size := h.only.size
  refine ⟨hd, hr, ?_, hs, ?_, ?_, (h.only.trans h1 fun k hk e => ?_).trans hm.only fun k hk e => ?_, fun k hk => ?_, fun k hk => ?_⟩
  · obtain ⟨us', -, q2', -⟩ := id hl1
    exact hl1.only hm.only fun k hk => ⟨hd1.no8 k hk, fun e => by
      obtain ⟨cur, hc⟩ := own_block q2' e
      exact hd1.apartT hc (by decide) (by decide) (by decide) hk⟩
  · exact own_only ha1 hm.only fun k e hk => by
      obtain ⟨cur, hc⟩ := own_block ha1 e
      exact hd1.apartT hc (by decide) (by decide) (by decide) hk
  · exact hp1.only hm.only hd1.no8
  · rcases e with e | e
    · exact .inr (.inl e)
    · rcases h.f2 k e with e | e
      · exact .inr (.inr e)
      · omega
  · rcases h.f1 k e with e | e
    · exact .inl e
    · omega
  · rcases hm.fresh k hk with e | e
    · exact h.f1 k e
    · exact .inr (Nat.le_trans (Nat.le_trans g0 h1.size) e)
  · rcases hst with e | e
    · rw [e] at hk; exact h.f2 k hk
    · exact .inr (Nat.le_trans g0 (e k hk))
end Go.Proofs.YtacfkhnajdneeaaDoor
