/- A page of the log of which some of 32 bits are turned, plainly. -/
import Derived.Test.YtacfkhnajdneeaaDoorRlPages
import Derived.Test.YtacfkhnajdneeaaDoorRlRefC
import Derived.Test.YtacfkhnajdneeaaDoorDkRot
namespace Go.Proofs.YtacfkhnajdneeaaDoor
open Go.RowKit

theorem turns8_far (s mask : Nat) (l : List UInt8) (j : Nat) : ∀ k, (∀ i, i < k → (s + i) / 8 ≠ j) → (turns8 s mask k l)[j]? = l[j]? := by
  intro k
  induction k with
  | zero => intro _; rfl
  | succ k ih =>
    intro h
    simp only [turns8]
    split
    · unfold turn8
      rw [List.getElem?_set_ne (h k (by omega))]
      exact ih fun i hi => h i (by omega)
    · exact ih fun i hi => h i (by omega)

/-- a bit that is turned is another one -/
theorem turn_flips (l : List Nat) (i : Nat) (h : i < 8 * l.length) : Crc.bitAt (Crc.turn l i) i = !Crc.bitAt l i := by
  unfold Crc.bitAt Crc.turn
  rw [List.getD_eq_getElem?_getD, List.getElem?_set_self (by omega), List.getD_eq_getElem?_getD]
  simp only [Option.getD_some, Nat.testBit_xor, Nat.testBit_two_pow_self, Bool.xor_true]

/-- where the mask has a bit, the turned bytes are other ones -/
theorem turned_ne (l : List UInt8) (s mask : Nat) (hm : mask ≠ 0) (hlt : mask < 4294967296) (hs : s + 32 ≤ 8 * l.length) : turns8 s mask 32 l ≠ l := by
  have key : ∀ k, k ≤ 32 → (∃ i, i < k ∧ mask / 2 ^ i % 2 = 1) → ∃ j, Crc.bitAt (nats (turns8 s mask k l)) j ≠ Crc.bitAt (nats l) j := by
    intro k
    induction k with
    | zero => rintro - ⟨i, hi, -⟩; omega
    | succ k ih =>
      rintro hk ⟨i, hi, hb⟩
      have hll : (nats l).length = l.length := by simp [nats]
      by_cases h1 : mask / 2 ^ k % 2 = 1
      · refine ⟨s + k, ?_⟩
        have e : turns8 s mask (k + 1) l = turn8 (turns8 s mask k l) (s + k) := if_pos ⟨by omega, h1⟩
        rw [e, nats_turn8, turn_flips _ _ (by
          have : (nats (turns8 s mask k l)).length = l.length := by rw [show (nats (turns8 s mask k l)).length = (turns8 s mask k l).length by simp [nats], length_turns8]
          rw [this]; omega)]
        have h2 : Crc.bitAt (nats (turns8 s mask k l)) (s + k) = Crc.bitAt (nats l) (s + k) := by
          rw [nats_turns8]
          by_cases h3 : Crc.bitAt (Crc.turns s mask k (nats l)) (s + k) = Crc.bitAt (nats l) (s + k)
          · exact h3
          · have := Crc.bitAt_turns s mask k (nats l) (s + k) h3
            omega
        rw [h2]
        cases Crc.bitAt (nats l) (s + k) <;> decide
      · have hik : i < k := by
          rcases Nat.lt_or_ge i k with h | h
          · exact h
          · have : i = k := by omega
            rw [this] at hb; exact absurd hb h1
        obtain ⟨j, hj⟩ := ih (by omega) ⟨i, hik, hb⟩
        have e : turns8 s mask (k + 1) l = turns8 s mask k l := if_neg (fun h => h1 h.2)
        exact ⟨j, by rw [e]; exact hj⟩
  have hex : ∃ i, i < 32 ∧ mask / 2 ^ i % 2 = 1 := by
    refine Classical.byContradiction fun hno => hm ?_
    refine Nat.eq_of_testBit_eq fun i => ?_
    rw [Nat.zero_testBit, Nat.testBit_eq_decide_div_mod_eq]
    rcases Nat.lt_or_ge i 32 with h | h
    · exact decide_eq_false fun h1 => hno ⟨i, h, h1⟩
    · have h2 : mask / 2 ^ i = 0 := Nat.div_eq_of_lt (Nat.lt_of_lt_of_le hlt (by
        have := Nat.pow_le_pow_right (show 0 < 2 by decide) h
        simpa using this))
      rw [h2]
      decide
  obtain ⟨j, hj⟩ := key 32 (Nat.le_refl _) hex
  intro h
  rw [h] at hj
  exact hj rfl

theorem turnAt_zero (l : List UInt8) (t : Nat) : turnAt l t 0 = l := by
  unfold turnAt
  rw [Nat.zero_mul]
  rcases Nat.lt_or_ge (t / 8) l.length with h | h
  · rw [List.getD_eq_getElem?_getD, List.getElem?_eq_getElem h]
    simp
  · rw [List.set_eq_of_length_le h]

theorem turnAt_one (l : List UInt8) (t : Nat) : turnAt l t 1 = turn8 l t := by
  unfold turnAt turn8
  rw [Nat.one_mul]

/-- the disk's turning is the burst's -/
theorem turnOf_is (l : List UInt8) (s mask : Nat) : ∀ k, s + k ≤ 8 * l.length → turnOf l s mask k = turns8 s mask k l := by
  intro k
  induction k with
  | zero => intro _; rfl
  | succ k ih =>
    intro h
    show turnAt (turnOf l s mask k) (s + k) (mask / 2 ^ k % 2) = if s + k < 8 * l.length ∧ mask / 2 ^ k % 2 = 1 then turn8 (turns8 s mask k l) (s + k) else turns8 s mask k l
    rw [ih (by omega)]
    rcases (by omega : mask / 2 ^ k % 2 = 0 ∨ mask / 2 ^ k % 2 = 1) with h0 | h1
    · rw [h0, turnAt_zero, if_neg (by rintro ⟨-, h⟩; cases h)]
    · rw [h1, turnAt_one, if_pos ⟨by omega, rfl⟩]

theorem turnOf_zero (l : List UInt8) (s : Nat) : ∀ n, turnOf l s 0 n = l
  | 0 => rfl
  | n + 1 => by
    show turnAt (turnOf l s 0 n) (s + n) (0 / 2 ^ n % 2) = l
    rw [Nat.zero_div, turnAt_zero, turnOf_zero l s n]

theorem parse_has {b : List UInt8} (h : (parseOf b).1 = 0) : b.length = 512 ∧ b = seal8 (b.take 508) ∧ b.getD 14 0 ≠ 0 ∧ b.take 2 = mark := by
  unfold parseOf at h
  split at h
  · exact absurd h (by decide)
  split at h
  · exact absurd h (by decide)
  split at h
  · exact absurd h (by decide)
  split at h
  · exact absurd h (by decide)
  · rename_i h1 h2 h3 h4
    refine ⟨Classical.byContradiction fun e => h1 e, Classical.byContradiction fun e => h3 e, fun e => h4 (.inl e), Classical.byContradiction fun e => h4 (.inr (.inr fun e' => e e'.1))⟩

theorem turned_corrupt {y : List UInt8} (h : (parseOf y).1 = 0) (s mask : Nat) (hne : turns8 s mask 32 y ≠ y) : parseOf (turns8 s mask 32 y) = (7, Pg.zero) := by
  obtain ⟨hl, hs, h14, hm⟩ := parse_has h
  refine parseOf_corrupt _ (by rw [length_turns8]; exact hl) ?_ ?_
  · intro hz
    by_cases h7 : 7 < s
    · have h1 := turns8_far s mask y 0 32 (fun i _ => by omega)
      have h2 : y[0]? = some 104 := by
        have h3 : (y.take 2)[0]? = some 104 := by rw [hm]; rfl
        rwa [List.getElem?_take, if_pos (by decide)] at h3
      exact absurd (hz _ (List.mem_of_getElem? (h1.trans h2))) (by decide)
    · have h1 := turns8_far s mask y 14 32 (fun i hi => by omega)
      have h2 : y[14]? = some (y.getD 14 0) := by rw [List.getD_eq_getElem?_getD, List.getElem?_eq_getElem (by omega)]; rfl
      exact h14 (hz _ (List.mem_of_getElem? (h1.trans h2)))
  · intro h'
    refine hne ?_
    have e : (y.take 508).length = 508 := by rw [List.length_take]; omega
    have h3 := shows_plain (y.take 508) s mask (turns8 s mask 32 y) (congrArg (turns8 s mask 32) hs) (by rw [e]; exact h')
    exact h3.trans hs.symm

theorem rot_same (d : Dk) (i s : Nat) (hi : i < d.safe.length) : d.rotted i s 0 32 = d := by
  have h1 : d.safe.set i (turnOf (d.safe.getD i []) s 0 32) = d.safe := by
    rw [turnOf_zero]
    refine List.ext_getElem? fun j => ?_
    rw [List.getElem?_set]
    by_cases h : i = j
    · subst h
      rw [if_pos rfl, if_pos hi, List.getD_eq_getElem?_getD, List.getElem?_eq_getElem hi]
      rfl
    · rw [if_neg h]
  have h2 : d.wait.map (rotW i s 0 32) = d.wait := by
    refine (List.map_congr_left fun x _ => ?_).trans (List.map_id _)
    unfold rotW
    split
    · rw [turnOf_zero]; rfl
    · rfl
  unfold Dk.rotted
  rw [h1, h2]

theorem now_safe {d : Dk} (hw : d.wait = []) (i : Nat) : d.now i = d.safe.getD i [] := by
  unfold Dk.now
  rw [hw]
  rfl

theorem rot_now {d : Dk} (hw : d.wait = []) (i s mask k : Nat) : (d.rotted i s mask 32).now k = if i = k ∧ k < d.safe.length then turnOf (d.now i) s mask 32 else d.now k := by
  rw [now_safe (d := d.rotted i s mask 32) (by show d.wait.map _ = []; rw [hw]; rfl), now_safe hw, now_safe hw]
  show (d.safe.set i _).getD k [] = _
  rw [List.getD_eq_getElem?_getD, List.getElem?_set]
  by_cases h : i = k
  · subst h
    by_cases hl : i < d.safe.length
    · rw [if_pos rfl, if_pos hl, if_pos ⟨rfl, hl⟩, Option.getD_some]
    · rw [if_pos rfl, if_neg hl, if_neg (fun h => hl h.2), List.getD_eq_getElem?_getD, List.getElem?_eq_none (by omega)]
  · rw [if_neg h, if_neg (fun e => h e.1), List.getD_eq_getElem?_getD]

theorem rot_scan {z : Sess} {r : Rl} {d : Dk} {all : List (List UInt8)} (h : Live z r d all all.length) (hw : d.wait = []) (j : Nat) (hj : j * 487 < (layAll all).length) (s mask : Nat) (hs : s + 32 ≤ 4096) (hmask : mask < 4294967296) (hm0 : mask ≠ 0) :
    turns8 s mask 32 (d.now (r.fr + j)) ≠ d.now (r.fr + j) ∧ (d.rotted (r.fr + j) s mask 32).now (r.fr + j) = turns8 s mask 32 (d.now (r.fr + j)) ∧ (scanR z.gen 0 0 (halfOf (d.rotted (r.fr + j) s mask 32) r.fr r.n)).1 = some j := by
  obtain ⟨Q, so, k, h1, h2, h3, h4⟩ := h.now.reads (fun j => d.now (r.fr + j)) fun j _ => rfl
  have hk : k = all.length := by omega
  have hQ : (layAll all).length ≤ Q.length := by
    have h5 := cut_le Q
    rw [h2, hk, List.take_length] at h5
    exact h5
  have hroom := h.poss.room
  have hfits := h.fits
  have hn := h.n
  have hjn : j < z.n := by omega
  obtain ⟨-, -, s2, s3⟩ := scan_split z.gen j _ 0 0 Q so h1 (by omega)
  have hcons : ∀ f : Nat → List UInt8, ((List.range z.n).map f).drop j = f j :: ((List.range z.n).map f).drop (j + 1) := fun f => by
    have hl : j < ((List.range z.n).map f).length := by rw [List.length_map, List.length_range]; exact hjn
    rw [List.drop_eq_getElem_cons hl, List.getElem_map, List.getElem_range]
  have hp : (parseOf (d.now (r.fr + j))).1 = 0 := by
    rw [hcons] at s2
    generalize (if j = 0 then 0 else so.getD (j - 1) 0) = a0 at s2
    rw [scanR] at s2
    refine Classical.byContradiction fun hne => ?_
    have hlen : 0 < (Q.drop (j * 487)).length := by rw [List.length_drop]; omega
    split at s2
    · cases s2
    split at s2
    · have h6 : ([] : List UInt8) = Q.drop (j * 487) := congrArg (fun x => x.2.1) s2
      rw [← h6] at hlen; exact absurd hlen (by simp)
    · rename_i g1 g2
      exact g2 (.inl hne)
  have hyl : (d.now (r.fr + j)).length = 512 := (parse_has hp).1
  have hne := turned_ne (d.now (r.fr + j)) s mask hm0 hmask (by rw [hyl]; omega)
  have hnow := fun k => rot_now hw (r.fr + j) s mask k
  have ht : turnOf (d.now (r.fr + j)) s mask 32 = turns8 s mask 32 (d.now (r.fr + j)) := turnOf_is _ s mask 32 (by rw [hyl]; omega)
  have hat : (d.rotted (r.fr + j) s mask 32).now (r.fr + j) = turns8 s mask 32 (d.now (r.fr + j)) := by
    rw [hnow, if_pos ⟨rfl, by omega⟩, ht]
  refine ⟨hne, hat, ?_⟩
  have hh : halfOf (d.rotted (r.fr + j) s mask 32) r.fr r.n = (List.range z.n).map fun i => (d.rotted (r.fr + j) s mask 32).now (r.fr + i) := by rw [hn]; rfl
  rw [hh]
  have h7 := s3 ((List.range z.n).map fun i => (d.rotted (r.fr + j) s mask 32).now (r.fr + i)) (map_range_take _ _ _ _ fun i hi _ => by
    show (d.rotted (r.fr + j) s mask 32).now (r.fr + i) = _
    rw [hnow, if_neg (fun e => by have := e.1; omega)])
  rw [h7, hcons]
  show (scanR z.gen (0 + j) _ ((d.rotted (r.fr + j) s mask 32).now (r.fr + j) :: _)).1 = some j
  have hc7 : (parseOf (turns8 s mask 32 (d.now (r.fr + j)))).1 = 7 := by rw [turned_corrupt hp s mask hne]
  rw [hat, scanR, hc7, if_pos (by decide : (7 : Int) ≠ 0 ∧ (7 : Int) ≠ 3), Nat.zero_add]
/-- a new disk's log, whatever the crown's serial -/
theorem live_new3 {N : Nat} {c : Cr} (hN : N ≤ 4096) (ok : c.Ok) :
    scanR c.gen 0 0 (halfOf (Dk.new N) (c.from N).1 (c.from N).2) = (none, [], []) ∧
    Live ⟨c.gen, (c.from N).2, serialOf c (Dk.new N), fun j => (Dk.new N).now ((c.from N).1 + j), [], []⟩ ⟨c.gen, (c.from N).1, (c.from N).2, serialOf c (Dk.new N), [], []⟩ (Dk.new N) [] 0 := by
  have hle := cr_from_le c N
  have hlen : (Dk.new N).safe.length = N := by show (List.replicate N (List.replicate 512 (0 : UInt8))).length = N; exact List.length_replicate
  have hall : ∀ b ∈ halfOf (Dk.new N) (c.from N).1 (c.from N).2, (parseOf b).1 = 3 := fun b hb => by
    obtain ⟨j, hj, rfl⟩ := List.mem_map.1 hb
    have := List.mem_range.1 hj
    exact blank_three _ (new_now N _ (by omega))
  have hsc := scan_none c.gen _ hall
  exact ⟨hsc, Live.start ⟨rfl, rfl⟩ (Dk.new_ok hN) (by rw [hlen]; exact hle) ok.gen rfl (by unfold serialOf; omega) hsc fun j hj => .inl (blank_three _ (new_now N _ (by omega)))⟩

theorem open_new3_any (gd N : Nat) (F : Nat → Prop) (c : Cr) (ok : c.Ok) (w : World) (hd : DiskAt w gd (Dk.new N) F) (h4 : 4 ≤ N) (hN : N ≤ 4096) (hh : c.half ≤ 1) :
    Calls Tryd.prog 20 #[.pointer (some ⟨gd, 0, none⟩), CrVal c] w fun e w' => Below w.heap.size w w' ∧ ∃ g G r z, e = .returned (.tuple #[.pointer (some ⟨g, 0, none⟩), .int .i64 0, .int .i64 0]) ∧ RlIn w' g gd r G ∧ (∀ k, G k → w.heap.size ≤ k) ∧ Live z r (Dk.new N) [] 0 ∧
      z.n = (c.from N).2 ∧ z.gen = c.gen ∧ r.fr = (c.from N).1 := by
  have hlen : (Dk.new N).safe.length = N := by show (List.replicate N (List.replicate 512 (0 : UInt8))).length = N; exact List.length_replicate
  obtain ⟨l1, l3⟩ := live_new3 (N := N) (c := c) hN ok
  refine (ropen_any gd (Dk.new N) F c ok w hd hh (Nat.zero_le _)).mono ?_
  rintro e w' ⟨hb, -, h⟩
  rw [hlen] at h
  obtain ⟨s, P, so, hsc, -, hg⟩ := h h4
  rw [l1] at hsc
  cases hsc
  obtain ⟨g, G, he, hr, hG⟩ := hg rfl
  exact ⟨hb, g, G, _, _, he, hr, hG, l3, rfl, rfl, rfl⟩

/-- what stands while records are appended -/
structure RotSt (w wr : World) (gd n3 g k : Nat) (c : Cr) (all : List (List UInt8)) (z : Sess) (r : Rl) (d : Dk) (F G : Nat → Prop) (synced : Nat) : Prop where
  st : St w wr gd g z r d F G all synced
  cr : Row3 wr n3 c
  zg : z.gen = c.gen
  fr : c.from 40 = (r.fr, r.n)
  n : r.n = 19
  len : d.safe.length = 40
  few : d.count ≤ 5000 * k ∧ d.wait.length ≤ 5000 * k ∧ k ≤ 8

theorem RotSt.below {w wr w' : World} {gd n3 g k synced : Nat} {c : Cr} {all : List (List UInt8)} {z : Sess} {r : Rl} {d : Dk} {F G : Nat → Prop} (h : RotSt w wr gd n3 g k c all z r d F G synced) (hb : Below wr.heap.size wr w') : RotSt w w' gd n3 g k c all z r d F G synced :=
  ⟨h.st.below hb, h.cr.below hb, h.zg, h.fr, h.n, h.len, h.few⟩
theorem RotSt.later {w wr : World} {gd n3 g k k' synced : Nat} {c : Cr} {all : List (List UInt8)} {z : Sess} {r : Rl} {d : Dk} {F G : Nat → Prop} (h : RotSt w wr gd n3 g k c all z r d F G synced) (hk : k ≤ k') (h8 : k' ≤ 8) : RotSt w wr gd n3 g k' c all z r d F G synced :=
  ⟨h.st, h.cr, h.zg, h.fr, h.n, h.len, ⟨by have := h.few.1; omega, by have := h.few.2.1; omega, h8⟩⟩
theorem RotSt.more {w wr w' : World} {gd n3 g k synced : Nat} {c : Cr} {all all' : List (List UInt8)} {z : Sess} {r r' : Rl} {d d' : Dk} {F G F' G' : Nat → Prop} (h : RotSt w wr gd n3 g k c all z r d F G synced) (h8 : k + 1 ≤ 8) (hs : St w w' gd g z r' d' F' G' all' synced) (hm : Moved wr w' (fun q => F q ∨ G q) (fun q => F' q ∨ G' q))
    (e1 : r'.fr = r.fr) (e2 : d'.safe = d.safe) (e3 : d'.count ≤ d.count + 5000) (e4 : d'.wait.length ≤ d.wait.length + 5000) : RotSt w w' gd n3 g (k + 1) c all' z r' d' F' G' synced :=
  ⟨hs, h.cr.moved h.st hm, h.zg, by rw [h.fr, e1, h.st.lv.n, hs.lv.n], by rw [hs.lv.n, ← h.st.lv.n]; exact h.n, by rw [e2]; exact h.len, ⟨by have := h.few.1; omega, by have := h.few.2.1; omega, h8⟩⟩
theorem RotSt.sync {w wr w' : World} {gd n3 g k synced : Nat} {c : Cr} {all : List (List UInt8)} {z : Sess} {r : Rl} {d : Dk} {F G F' : Nat → Prop} (h : RotSt w wr gd n3 g k c all z r d F G synced) (hs : St w w' gd g z r d.synced F' G all all.length) (hm : Moved wr w' (fun q => F q ∨ G q) (fun q => F' q ∨ G q)) :
    RotSt w w' gd n3 g k c all z r d.synced F' G all.length :=
  ⟨hs, h.cr.moved h.st hm, h.zg, h.fr, h.n, by rw [← h.len]; exact syncOf_length _ _, ⟨h.few.1, Nat.zero_le _, h.few.2.2⟩⟩

theorem run_make8u {P : Program} (w : World) {t e : TypeId} (T : MakeTy P t e) (n : Nat) (hn : n ≤ 1000000) :
    ∃ w', (Instr.makeSlice t (.int .u16 n) (.int .u16 n)).run P w = .ok (.slice (some ⟨w.heap.size, 0, none⟩) n n) w' ∧ Own8 e w.heap.size w' (.slice (some ⟨w.heap.size, 0, none⟩) n n) (List.replicate n 0) ∧ Below w.heap.size w w' := by
  obtain ⟨i, hi, hz, hs, hb⟩ := T.ex
  obtain ⟨w', hrun, r1, r2⟩ := run_make_full (P := P) w w.heap.size t e i (.int .u8 0) 1 T.ht hi hz hs .u16 .u16 n (by rw [hb]; omega) (by unfold maxLen; omega) (Nat.le_refl _)
  rw [made8] at r1
  exact ⟨w', hrun, by unfold Own8; rw [List.length_replicate]; exact r1, ⟨r2.os, r2.tape, r2.output, r2.size, fun k hk => r2.block k hk (by simp)⟩⟩

theorem min_4064 {r : Int} {n : Nat} (h : Hid (r = if (4064 : Int) < n then 4064 else (n : Int))) : ∃ s : Nat, r = (s : Int) ∧ s ≤ 4064 := by
  have h' := h.out
  refine ⟨min n 4064, ?_, by omega⟩
  rw [h']
  split <;> omega
end Go.Proofs.YtacfkhnajdneeaaDoor
